/- The reference's integers back as machine numbers, and whole numbers as rational ones. -/
import Derived.Test.YteoikaedpgianaaRQ
namespace Go.Proofs.Yteoikaedpgianaa
open Go.RowKit Limb

theorem div_pow_step (m j : Nat) : m / 65536 ^ (j + 1) * 65536 + m / 65536 ^ j % 65536 = m / 65536 ^ j := by
  rw [Nat.pow_succ, ← Nat.div_div_eq_div_mul]
  omega
set_option maxRecDepth 100000 in
set_option maxHeartbeats 800000 in
theorem fits_any (a : Int) (k : Nat) (va : Value) (w : World) (ha : IntAt w va a k) (hf : -4611686018427387904 ≤ a ∧ a ≤ 4611686018427387904) :
    Calls Try.prog 56 #[va] w fun r w' => r = .returned (.tuple #[.int .i64 a, .bool true]) ∧ Below w.heap.size w w' := by
  obtain ⟨la, rfl, hna, hla⟩ := ha
  obtain ⟨la, ca, rfl, _, _⟩ := NatAt.open hna
  obtain ⟨a', ca', hv, hsh, hrd⟩ := hna.open
  obtain ⟨rfl, _, rfl⟩ : la = a' ∧ True ∧ ca = ca' := by cases hv; exact ⟨rfl, trivial, rfl⟩
  have HR := hid hrd
  have hp : (natL a.natAbs).length ≤ 4 := natL_length_le.2 (by omega)
  have HT := hid (show a.natAbs / 65536 ^ (natL a.natAbs).length = 0 from natL_digit_high _ _ (Nat.le_refl _))
  have HTOP := hid (show a.natAbs / 65536 ^ 3 % 65536 ≤ 16384 by omega)
  have HMI := hid (show ((a.natAbs : Nat) : Int) ≤ 4611686018427387904 by omega)
  have HS := hid (show decide (a < 0) = true → -((a.natAbs : Nat) : Int) = a by intro h; simp at h; omega)
  have HS' := hid (show decide (a < 0) = false → ((a.natAbs : Nat) : Int) = a by intro h; simp at h; omega)
  have HDM := hid (fun j => div_pow_step a.natAbs j)
  have HDL := hid (fun j => digit_lt a.natAbs j)
  have HLE := hid (fun j => Nat.div_le_self a.natAbs (65536 ^ j))
  have HFI := hid hf
  generalize decide (a < 0) = sa at *
  generalize (natL a.natAbs).length = p at *
  clear hna hla hrd hf
  generalize a.natAbs = m at *
  go_enter Try.func56, Try.ntmps56
  by_cases h4 : p = 4
  · subst h4
    obtain ⟨g, hg4, hg, hc⟩ := HR.out (w.alloc (.cells #[.bool sa, .slice la 4 ca] 33)) ((Below.refl _ _).alloc (Nat.le_refl _) _) 3 (by decide)
    have htop := HTOP.out
    subst hg4
    simp only at hc
    generalize m / 65536 ^ 3 % 65536 = x at *
    clear htop
    have htop : (x : Int) ≤ 16384 := by have := HTOP.out; omega
    have hp : 4 ≤ 4 := by decide
    go_wp2_with fail
    clear hc htop
    go_loop [4, 5] (fun nv iv => ∃ j : Nat, j ≤ 4 ∧ iv = .int .i64 ((j : Int) - 1) ∧ nv = .int .i64 (m / 65536 ^ j : Nat)) (fun _ iv => (intOf iv + 1).toNat)
    case atStart => exact ⟨4, Nat.le_refl _, by go_num, by rw [HT.out]; rfl⟩
    case round =>
      obtain ⟨j, hj, rfl, rfl⟩ := hrel
      rcases Nat.eq_zero_or_pos j with rfl | hj0
      · rw [Nat.pow_zero, Nat.div_one]
        have hmi := HMI.out
        cases sa
        · have HV := hid (HS'.out rfl)
          go_wp2_with fail
          go_ret2
          exact ⟨by rw [← HV.out]; rfl, by (repeat' (first | (with_reducible exact Below.refl _ _) | (with_reducible assumption) | (with_reducible refine Below.alloc ?_ ?_ _) | (with_reducible refine Below.drew ?_) | (with_reducible refine below_drewN ?_ _) | (with_reducible refine Below.setCell ?_ ?_ _) | (with_reducible refine below_setRow ?_ ?_ _) | go_size))⟩
        · have HV := hid (HS.out rfl)
          go_wp2_with fail
          go_ret2
          exact ⟨by rw [← HV.out]; rfl, by (repeat' (first | (with_reducible exact Below.refl _ _) | (with_reducible assumption) | (with_reducible refine Below.alloc ?_ ?_ _) | (with_reducible refine Below.drew ?_) | (with_reducible refine below_drewN ?_ _) | (with_reducible refine Below.setCell ?_ ?_ _) | (with_reducible refine below_setRow ?_ ?_ _) | go_size))⟩
      · obtain ⟨i, rfl⟩ : ∃ i, j = i + 1 := ⟨j - 1, by omega⟩
        obtain ⟨g9, hg9, hg, hc⟩ := HR.out (w.alloc (.cells #[.bool sa, .slice (some ⟨g, 0, none⟩) 4 ca] 33)) ((Below.refl _ _).alloc (Nat.le_refl _) _) i (by omega)
        have HD1 := hid (HDM.out i)
        have HL1 := hid (HLE.out i)
        have HL2 := hid (HLE.out (i + 1))
        have hd1 := HDL.out i
        (first | subst hg9 | cases hg9)
        simp only at hc
        have hx1 : ((m / 65536 ^ i % 65536 : Nat) : Int) ≤ 65535 := by omega
        have hx2 : ((m / 65536 ^ (i + 1) : Nat) : Int) * 65536 + ((m / 65536 ^ i % 65536 : Nat) : Int) = ((m / 65536 ^ i : Nat) : Int) := by have := HD1.out; omega
        have hx3 : ((m / 65536 ^ i : Nat) : Int) ≤ 4611686018427387904 := by have := HL1.out; have := HMI.out; omega
        have HX2 := hid hx2
        clear hd1 hx2
        generalize m / 65536 ^ (i + 1) = n1 at *
        generalize m / 65536 ^ i % 65536 = x1 at *
        have hx4 : ((n1 : Nat) : Int) * 65536 + x1 ≤ 4611686018427387904 := by have := HX2.out; omega
        go_wp2_with fail
        go_round
        case rel => exact ⟨i, by omega, by go_num, by first | (rw [HX2.out]; done) | (exact congrArg (Value.int .i64) HX2.out) | go_num⟩
        case measure => (try simp [intOf]); (try omega)
  · have h4' : ((p : Int) == 4) = false := by simp; omega
    clear h4
    have hp3 : (p : Int) ≤ 4 := by omega
    go_wp2_with fail
    go_loop [4, 5] (fun nv iv => ∃ j : Nat, j ≤ p ∧ iv = .int .i64 ((j : Int) - 1) ∧ nv = .int .i64 (m / 65536 ^ j : Nat)) (fun _ iv => (intOf iv + 1).toNat)
    case atStart => exact ⟨p, Nat.le_refl _, by go_num, by rw [HT.out]; rfl⟩
    case round =>
      obtain ⟨j, hj, rfl, rfl⟩ := hrel
      rcases Nat.eq_zero_or_pos j with rfl | hj0
      · rw [Nat.pow_zero, Nat.div_one]
        have hmi := HMI.out
        cases sa
        · have HV := hid (HS'.out rfl)
          go_wp2_with fail
          go_ret2
          exact ⟨by rw [← HV.out]; rfl, by (repeat' (first | (with_reducible exact Below.refl _ _) | (with_reducible assumption) | (with_reducible refine Below.alloc ?_ ?_ _) | (with_reducible refine Below.drew ?_) | (with_reducible refine below_drewN ?_ _) | (with_reducible refine Below.setCell ?_ ?_ _) | (with_reducible refine below_setRow ?_ ?_ _) | go_size))⟩
        · have HV := hid (HS.out rfl)
          go_wp2_with fail
          go_ret2
          exact ⟨by rw [← HV.out]; rfl, by (repeat' (first | (with_reducible exact Below.refl _ _) | (with_reducible assumption) | (with_reducible refine Below.alloc ?_ ?_ _) | (with_reducible refine Below.drew ?_) | (with_reducible refine below_drewN ?_ _) | (with_reducible refine Below.setCell ?_ ?_ _) | (with_reducible refine below_setRow ?_ ?_ _) | go_size))⟩
      · obtain ⟨i, rfl⟩ : ∃ i, j = i + 1 := ⟨j - 1, by omega⟩
        obtain ⟨g9, hg9, hg, hc⟩ := HR.out (w.alloc (.cells #[.bool sa, .slice la p ca] 33)) ((Below.refl _ _).alloc (Nat.le_refl _) _) i (by omega)
        have HD1 := hid (HDM.out i)
        have HL1 := hid (HLE.out i)
        have HL2 := hid (HLE.out (i + 1))
        have hd1 := HDL.out i
        (first | subst hg9 | cases hg9)
        simp only at hc
        have hx1 : ((m / 65536 ^ i % 65536 : Nat) : Int) ≤ 65535 := by omega
        have hx2 : ((m / 65536 ^ (i + 1) : Nat) : Int) * 65536 + ((m / 65536 ^ i % 65536 : Nat) : Int) = ((m / 65536 ^ i : Nat) : Int) := by have := HD1.out; omega
        have hx3 : ((m / 65536 ^ i : Nat) : Int) ≤ 4611686018427387904 := by have := HL1.out; have := HMI.out; omega
        have HX2 := hid hx2
        clear hd1 hx2
        generalize m / 65536 ^ (i + 1) = n1 at *
        generalize m / 65536 ^ i % 65536 = x1 at *
        have hx4 : ((n1 : Nat) : Int) * 65536 + x1 ≤ 4611686018427387904 := by have := HX2.out; omega
        go_wp2_with fail
        go_round
        case rel => exact ⟨i, by omega, by go_num, by first | (rw [HX2.out]; done) | (exact congrArg (Value.int .i64) HX2.out) | go_num⟩
        case measure => (try simp [intOf]); (try omega)

set_option maxRecDepth 100000 in
theorem whole_any (z : Int) (w : World) (hz : -9223372036854775808 ≤ z ∧ z ≤ 9223372036854775807) :
    Calls Try.prog 25 #[.int .i64 z] w fun r w' => (∃ v, r = .returned v ∧ QAt w' v (z : Rat) 4) ∧ Below w.heap.size w w' := by
  have HS := hid (fun w => small_any z w hz)
  have HK := hid (show LenLe z.natAbs 4 from natL4 (by omega))
  clear hz
  go_enter Try.func25, Try.ntmps25
  go_wp2_with fail
  refine (HS.out _).mono ?_
  rintro r w1 ⟨⟨l, rfl, hl⟩, hb⟩
  have F2 := hid (heap_below hb (by first | (simp; done) | (simp; omega)) (by repeat' (first | (refine heap_alloc_at _ _ _ ?_; (first | rfl | (simp; done) | (simp; omega))) | (refine heap_alloc_past _ _ _ _ ?_))) : w1.heap[w.heap.size]? = some (.cells #[.bool false, .slice none 0 0, .slice none 0 0] 35))
  have HB1 := hid ((by refine Below.trans ?_ (hb.mono ?_); (focus ((repeat' (first | (with_reducible exact Below.refl _ _) | (with_reducible assumption) | (with_reducible refine Below.alloc ?_ ?_ _) | (with_reducible refine Below.drew ?_) | (with_reducible refine below_drewN ?_ _) | (with_reducible refine Below.setCell ?_ ?_ _) | (with_reducible refine below_setRow ?_ ?_ _) | go_size)); done)); (focus (first | (simp; done) | (simp; omega)))) : Below w.heap.size w w1)
  have HL := hid hl.at
  obtain ⟨al, cl, rfl, _, _⟩ := own_open hl
  have hsz := HB1.out.size
  generalize hdd : decide (z < 0) = sz at *
  have HDD := hid hdd
  generalize (natL z.natAbs).length = n at *
  clear hb hl hdd
  go_wp2_with (refine wpList_store_at rfl 35 (.tmp 2) (.tmp 6) rfl rfl rfl ((heap_alloc_past _ _ _ _ F2.out)) size35 rfl rfl rfl ?_)
  refine bodyPost_ret (results_at1 rfl rfl (setRow_heap _ _ _ _ _ _ ((heap_alloc_past _ _ _ _ F2.out))) Try.underlying35 rfl size35 rfl) rfl ?_
  refine ⟨⟨_, rfl, _, _, by rw [Rat.num_intCast, HDD.out], ?_, ?_, by rw [Rat.num_intCast]; exact HK.out, by rw [Rat.den_intCast]; exact (show LenLe 1 4 by unfold LenLe; rw [natL_single (by decide) (by decide)]; decide)⟩, ?_⟩
  · rw [Rat.num_intCast]
    exact (HL.out.grow ((Below.refl _ _).alloc (Nat.le_refl _) _)).row (heap_alloc_past _ _ _ _ F2.out) (by decide)
  · rw [Rat.den_intCast]
    exact (nat_limb (x := 1) rfl (by decide) (by decide) (by repeat' (first | (refine heap_alloc_at _ _ _ ?_; (first | rfl | (simp; done) | (simp; omega))) | (refine heap_alloc_past _ _ _ _ ?_)))).row (heap_alloc_past _ _ _ _ F2.out) (by decide)
  · exact below_setRow (HB1.out.alloc hsz _) (Nat.le_refl _) _
end Go.Proofs.Yteoikaedpgianaa
