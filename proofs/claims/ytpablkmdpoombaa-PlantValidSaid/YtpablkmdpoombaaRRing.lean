/- Rings in the reference: Place 97, Ring 61. -/
import Derived.Test.YtpablkmdpoombaaWithin
namespace Go.Proofs.Ytpablkmdpoombaa
open Go.RowKit

set_option maxRecDepth 100000 in
theorem rplace_any (x y : Int) (w : World) : Calls Try.prog 97 #[.agg #[.int .i64 x, .int .i64 y]] w fun e w' => e = .returned (.bool (placeB x y)) ∧ Below w.heap.size w w' := by
  obtain ⟨A, hA⟩ : ∃ A, A = decide ((-268435456 : Int) ≤ x) := ⟨_, rfl⟩
  obtain ⟨B, hB⟩ : ∃ B, B = decide (x ≤ (268435456 : Int)) := ⟨_, rfl⟩
  obtain ⟨C, hC⟩ : ∃ C, C = decide ((-268435456 : Int) ≤ y) := ⟨_, rfl⟩
  obtain ⟨D, hD⟩ : ∃ D, D = decide (y ≤ (268435456 : Int)) := ⟨_, rfl⟩
  have HV := hid (show placeB x y = (A && B && (C && D)) by rw [hA, hB, hC, hD]; rfl)
  have d1 := hA.symm
  have d2 := hB.symm
  have d3 := hC.symm
  have d4 := hD.symm
  clear hA hB hC hD
  cases A <;> cases B <;> cases C <;> cases D
  all_goals
    go_enter Try.func97, Try.ntmps97
    go_wp2_with fail
    go_ret
    exact ⟨by rw [HV.out]; rfl, (Below.refl _ _).alloc (Nat.le_refl _) _⟩
set_option maxRecDepth 100000 in
set_option maxHeartbeats 1600000 in
theorem rRing_any (v : Value) (R : List Xy) (w : World) (hR : XysV w v R) (hm : R.length ≤ maxLen) :
    Calls Try.prog 61 #[v] w fun r w' => r = .returned (.bool (ringB R)) ∧ Below w.heap.size w w' := by
  obtain ⟨a, cap, rfl, hrow⟩ := hR
  obtain ⟨n, hn⟩ : ∃ n, n = R.length := ⟨_, rfl⟩
  rw [← hn] at hm ⊢
  have hnm' : n ≤ 9223372036854775807 := by unfold maxLen at hm; omega
  clear hm
  have HN := hid hn
  have HROW := hid hrow
  clear hn hrow
  go_enter Try.func61, Try.ntmps61
  go_wp2_with fail
  go_loopw [3] (fun iv W => ∃ i : Nat, i ≤ n ∧ iv = .int .i64 (i : Int) ∧ (R.take i).all plX = true ∧ Below w.heap.size w W) (fun iv _ => n - (intOf iv).toNat)
  case atStart => exact ⟨0, by omega, rfl, rfl, Below.refl _ _⟩
  case round =>
    obtain ⟨i, hi, rfl, hall, hB⟩ := hrel
    have HALL := hid hall
    have HBwr := hid hB
    have hzwr := hB.size
    clear hall hB
    by_cases hlt : i < n
    · have d2 : decide ((i : Int) < (n : Int)) = true := decide_eq_true (by omega)
      obtain ⟨p, hp⟩ : ∃ p, R[i]? = some p := ⟨_, List.getElem?_eq_getElem (by rw [← HN.out]; exact hlt)⟩
      obtain ⟨b, off, rfl, hbw, hrows⟩ := HROW.out.resolve_left (fun h => by rw [h] at hp; simp at hp)
      obtain ⟨c0, c1⟩ := xys_cells hrows hp HBwr.out hbw
      have HBAD := hid (fun h : plX p = false => ring_stop hp h)
      have HYES := hid (fun h : plX p = true => ring_next hp h HALL.out)
      clear hp hrows
      obtain ⟨px, py⟩ := p
      cases hz : placeB px py
      · have HX := hid (HBAD.out hz)
        have HZ := hid hz
        clear hz
        go_wp2_with fail
        refine (rplace_any _ _ _).mono ?_
        rintro r w1 ⟨rfl, hb⟩
        rw [HZ.out]
        go_wp2_with fail
        go_ret
        exact ⟨by rw [HX.out]; rfl, HBwr.out.trans (hb.mono hzwr)⟩
      · have HX := hid (HYES.out hz)
        have HZ := hid hz
        clear hz
        go_wp2_with fail
        refine (rplace_any _ _ _).mono ?_
        rintro r w1 ⟨rfl, hb⟩
        rw [HZ.out]
        go_wp2_with fail
        exact ⟨⟨i + 1, by omega, by go_num, HX.out, HBwr.out.trans (hb.mono hzwr)⟩, by simp [intOf]; omega⟩
    · obtain rfl : i = n := by omega
      have d2 : decide ((i : Int) < (i : Int)) = false := by simp
      have HV := hid (show ringB R = inB 3 64 i by unfold ringB; have h := HALL.out; rw [HN.out, List.take_length] at h; rw [h, HN.out, Bool.and_true])
      by_cases h3 : 3 ≤ i
      · have e1 : decide ((3 : Int) ≤ (i : Int)) = true := decide_eq_true (by omega)
        by_cases h64 : i ≤ 64
        · have e2 : decide ((i : Int) ≤ (64 : Int)) = true := decide_eq_true (by omega)
          have HF := hid (show inB 3 64 (i : Int) = true by unfold inB; rw [e1, e2]; rfl)
          go_wp2_with fail
          go_ret
          exact ⟨by rw [HV.out, HF.out]; rfl, HBwr.out⟩
        · have e2 : decide ((i : Int) ≤ (64 : Int)) = false := decide_eq_false (by omega)
          have HF := hid (show inB 3 64 (i : Int) = false by unfold inB; rw [e1, e2]; rfl)
          go_wp2_with fail
          go_ret
          exact ⟨by rw [HV.out, HF.out]; rfl, HBwr.out⟩
      · have e1 : decide ((3 : Int) ≤ (i : Int)) = false := decide_eq_false (by omega)
        have HF := hid (show inB 3 64 (i : Int) = false by unfold inB; rw [e1]; rfl)
        go_wp2_with fail
        go_ret
        exact ⟨by rw [HV.out, HF.out]; rfl, HBwr.out⟩
end Go.Proofs.Ytpablkmdpoombaa
