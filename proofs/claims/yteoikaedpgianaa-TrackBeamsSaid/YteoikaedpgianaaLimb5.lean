/- The reference's numbers: quotients by one limb. -/
import Derived.Test.YteoikaedpgianaaLimb4
import Derived.Lib.QuietBelow
namespace Go.Proofs.Yteoikaedpgianaa
open Go.RowKit Limb

theorem tdiv_nat {z : Int} {a b : Nat} (h : z = a) : z.tdiv (b : Int) = ((a / b : Nat) : Int) := by
  subst h
  rw [Int.tdiv_eq_ediv_of_nonneg (by omega)]; rfl
theorem tmod_nat {z : Int} {a b : Nat} (h : z = a) : z.tmod (b : Int) = ((a % b : Nat) : Int) := by
  subst h
  rw [Int.tmod_eq_emod_of_nonneg (by omega)]; rfl
set_option maxRecDepth 100000 in
set_option maxHeartbeats 800000 in
theorem short_any (m d : Nat) (va : Value) (w : World) (ha : NatAt w va m) (hla : (natL m).length ≤ 100000) (hd0 : 0 < d) (hd : d < 65536) :
    Calls Try.prog 157 #[va, .int .i64 d] w fun r w' => (∃ v, r = .returned (.tuple #[v, .int .i64 (m % d : Nat)]) ∧ NatIn w.heap.size w' v (m / d)) ∧ Below w.heap.size w w' := by
  obtain ⟨i0, hi, hz0, hz1, hz2⟩ := info_parts info3
  have HI := hid hi
  have HZ0 := hid hz0
  have HZ1 := hid hz1
  have HZ2 := hid hz2
  clear hi hz0 hz1 hz2
  obtain ⟨a, ca, rfl, hsa, hra⟩ := ha.open
  have HA := hid hra
  obtain ⟨p, hp⟩ : ∃ p, (natL m).length = p := ⟨_, rfl⟩
  rw [hp] at hla HA hsa ⊢
  have HP := hid (show m < 65536 ^ p from natL_length_le.1 (by omega))
  clear ha hra hp
  go_enter Try.func157, Try.ntmps157
  go_wp2_with (refine wpList_make_lc _ rfl (.tmp 11) (.tmp 11) 31 rfl 3 i0 (.int .i64 0) Try.underlying31 HI.out HZ0.out HZ1.out rfl .i64 .i64 (p : Int) (p : Int) p p rfl rfl rfl rfl (Nat.le_refl _) (by rw [HZ2.out]; omega) (by omega) ?_)
  have HR0 := hid (row_made w p)
  have HB0 := hid ((Below.refl w.heap.size w).alloc (Nat.le_refl _) (.cells (madeCells #[.int .i64 0] p) 3))
  refine gen_world (fun W hW => ?_)
  rw [← hW] at HR0 HB0
  clear hW
  go_loopw [7, 8] (fun rv iv wr => ∃ (k R : Nat) (o : List Nat), k ≤ p ∧ iv = .int .i64 ((k : Int) - 1) ∧ rv = .int .i64 R ∧ R < d ∧ o.length = p ∧ (∀ x ∈ o, x < 65536) ∧ (∀ j, j < k → o.getD j 0 = 0) ∧ val o * d + R * 65536 ^ k + m % 65536 ^ k = m ∧ RowAt wr w.heap.size o ∧ Below w.heap.size w wr) (fun _ i _ => (intOf i + 1).toNat)
  case atStart => exact ⟨p, 0, List.replicate p 0, by omega, by go_num, rfl, by omega, by simp, by intro x hx; simp at hx; omega, by intro j hj; simp [List.getD_eq_getElem?_getD, List.getElem?_replicate]; split <;> rfl, by rw [val_replicate_zero, Nat.mod_eq_of_lt HP.out]; simp, HR0.out, HB0.out⟩
  case round =>
    obtain ⟨k, R, o, hk, rfl, rfl, hR, hol, holt, hz, hv, hrow, hB⟩ := hrel
    rcases Nat.eq_zero_or_pos k with rfl | hkp
    · have HV := hid (div_end hR hv)
      have HO := hid (RowAt.own hrow (Nat.le_refl _) (by omega))
      have HLT := hid holt
      have HBW := hid hB
      rw [hol] at HO
      clear hz holt hrow hB hv
      go_wp2_with fail
      refine (trim_any w.heap.size p _ o wr HO.out HLT.out).mono ?_
      rintro r w2 ⟨⟨v', rfl, hown⟩, rfl⟩
      go_wp2_with fail
      go_ret2
      rw [HV.out.1] at hown
      exact ⟨⟨_, by rw [HV.out.2]; rfl, hown⟩, HBW.out⟩
    · obtain ⟨j, rfl⟩ : ∃ j, k = j + 1 := ⟨k - 1, by omega⟩
      obtain ⟨g, rfl, hg, hca⟩ := HA.out _ hB j (by omega)
      have hcr := hrow.cell (j := j) (by omega)
      have hfr := hrow.free (j := j)
      have HM := hid (fun (s : Nat) hs => div_step (U := m) (V := d) (R := R) (by omega) (hz j (by omega)) hv (s := s) hs)
      have hd1 := digit_lt m j
      simp only at hca
      generalize m / 65536 ^ j % 65536 = x at *
      have HZ := hid hz
      have HLT := hid holt
      have HROW := hid hrow
      have HBW := hid hB
      have hsz := hB.size
      have hrl := hrow.lt
      have hq : ((R : Int) * 65536 + (x : Int)).tdiv (d : Int) = (((R * 65536 + x) / d : Nat) : Int) := tdiv_nat (by omega)
      have hr : ((R : Int) * 65536 + (x : Int)).tmod (d : Int) = (((R * 65536 + x) % d : Nat) : Int) := tmod_nat (by omega)
      have hql : (R * 65536 + x) / d < 65536 := (Nat.div_lt_iff_lt_mul hd0).2 (by omega)
      have hrl2 : (R * 65536 + x) % d < d := Nat.mod_lt _ hd0
      have HX := hid (HM.out (R * 65536 + x) (by omega))
      generalize (R * 65536 + x) / d = Q at *
      generalize (R * 65536 + x) % d = S at *
      clear hz holt hrow hB hv HM
      go_wp2_with fail
      go_roundw
      case rel => exact ⟨j, S, o.set j Q, by omega, by go_num, by go_num, hrl2, by rw [List.length_set]; omega, lt_set HLT.out (by omega), fun k hk => by rw [getD_set_ne (by omega)]; exact HZ.out k (by omega), HX.out, RowAt.set HROW.out (by go_num), by have hB0 := HBW.out; (repeat' (first | (with_reducible exact Below.refl _ _) | (with_reducible assumption) | (with_reducible refine Below.alloc ?_ ?_ _) | (with_reducible refine Below.drew ?_) | (with_reducible refine below_drewN ?_ _) | (with_reducible refine Below.setCell ?_ ?_ _) | (with_reducible refine below_setRow ?_ ?_ _) | go_size))⟩
      case measure => (try simp [intOf]); (try omega)
end Go.Proofs.Yteoikaedpgianaa
