/- The program's distance of two numbers. -/
import Derived.Test.YteoikaedpgianaaRRUp
import Derived.Test.YteoikaedpgianaaRDiv64
namespace Go.Proofs.Yteoikaedpgianaa
open Go.RowKit Limb

set_option maxRecDepth 100000 in
theorem dist_any (a b : Int) (w : World) (ha : -4611686018427387904 ≤ a ∧ a ≤ 4611686018427387903) (hb : -4611686018427387904 ≤ b ∧ b ≤ 4611686018427387903) :
    Calls Try.prog 140 #[.int .i64 a, .int .i64 b] w fun r w' => r = .returned (.int .i64 (apartV a b)) ∧ w = w' := by
  go_enter Try.func140, Try.ntmps140
  go_wp2_with fail
  all_goals
    go_ret
    refine ⟨?_, rfl⟩
    show Ending.returned (Value.int .i64 _) = Ending.returned (Value.int .i64 _)
    congr 2
    unfold apartV
    split <;> omega

theorem div64_any (hi lo y : Nat) (w : World) (hlo : lo < 18446744073709551616) (hy : hi < y) (hy2 : y < 18446744073709551616) :
    Calls Try.prog 143 #[.int .u64 (hi : Int), .int .u64 (lo : Int), .int .u64 (y : Int)] w fun e w' => e = .returned (.tuple #[.int .u64 (((hi * 18446744073709551616 + lo) / y : Nat) : Int), .int .u64 (((hi * 18446744073709551616 + lo) % y : Nat) : Int)]) ∧ ∃ n, w' = w.drewN n := by
  rcases Nat.eq_zero_or_pos hi with rfl | h
  · have h2 := div64_low lo y w hy hlo
    rw [Nat.zero_mul, Nat.zero_add]
    exact h2
  · exact div64_high hi lo y w h hlo hy hy2
/-- the quotient of a product of natural numbers, by Go's two words -/
theorem muldiv_any (A B C : Nat) (w : World) (hc : 0 < C) (hC : C < 9223372036854775808) (hp : A * B / C < 9223372036854775808) :
    Calls Try.prog 143 #[.int .u64 ((A * B / 18446744073709551616 : Nat) : Int), .int .u64 ((A * B % 18446744073709551616 : Nat) : Int), .int .u64 (C : Int)] w fun e w' => e = .returned (.tuple #[.int .u64 ((A * B / C : Nat) : Int), .int .u64 ((A * B % C : Nat) : Int)]) ∧ ∃ n, w' = w.drewN n := by
  have hlt : A * B / 18446744073709551616 < C := by
    rw [Nat.div_lt_iff_lt_mul (by omega)]
    rw [Nat.div_lt_iff_lt_mul hc] at hp
    omega
  have h := div64_any (A * B / 18446744073709551616) (A * B % 18446744073709551616) C w (Nat.mod_lt _ (by omega)) hlt (by omega)
  have e : A * B / 18446744073709551616 * 18446744073709551616 + A * B % 18446744073709551616 = A * B := Nat.div_add_mod' _ _
  rw [e] at h
  exact h
theorem up_nat (A B C : Nat) (hc : 0 < C) : upV (A : Int) (B : Int) (C : Int) = ((A * B / C : Nat) : Int) + (if A * B % C = 0 then 0 else 1) := by
  unfold upV
  rw [← Int.natCast_mul]
  have h1 := Nat.div_add_mod (A * B) C
  have h2 := Nat.mod_lt (A * B) hc
  generalize A * B = p at *
  generalize p / C = q at *
  generalize p % C = r at *
  subst h1
  split
  · rename_i h
    subst h
    rw [Nat.add_zero, Int.natCast_mul, Int.neg_mul_eq_mul_neg, Int.mul_ediv_cancel_left _ (by omega)]
    omega
  · rename_i h
    have : -(((C * q + r : Nat)) : Int) / (C : Int) = -(q : Int) - 1 := by
      refine (Int.ediv_emod_unique (r := (C : Int) - r) (by omega)).2 ⟨?_, ?_, ?_⟩ |>.1
      · rw [Int.natCast_add, Int.natCast_mul, Int.mul_sub, Int.mul_neg]
        omega
      · omega
      · omega
    rw [this]
    omega
set_option maxRecDepth 100000 in
theorem share_any (a b c : Int) (w : World) (ha : 0 ≤ a ∧ a ≤ 9223372036854775807) (hb : 0 ≤ b ∧ b ≤ 9223372036854775807) (hc : 0 < c ∧ c ≤ 9223372036854775807) (hf : upV a b c ≤ 4611686018427387904) :
    Calls Try.prog 95 #[.int .i64 a, .int .i64 b, .int .i64 c] w fun r w' => r = .returned (.int .i64 (upV a b c)) ∧ ∃ n, w' = w.drewN n := by
  obtain ⟨A, rfl⟩ := Int.eq_ofNat_of_zero_le ha.1
  obtain ⟨B, rfl⟩ := Int.eq_ofNat_of_zero_le hb.1
  obtain ⟨C, rfl⟩ := Int.eq_ofNat_of_zero_le (Int.le_of_lt hc.1)
  have hu := up_nat A B C (by omega)
  have hq : A * B / C ≤ 4611686018427387904 := by
    rw [hu] at hf
    split at hf <;> omega
  have HU := hid hu
  have HM := hid (fun w => mul64_any A B (by omega) (by omega) w)
  have HD := hid (fun w => muldiv_any A B C w (by omega) (by omega) (by omega))
  have ea := wrapI ha.1 (by omega)
  have eb := wrapI hb.1 (by omega)
  have ec := wrapI (Int.le_of_lt hc.1) (by omega)
  clear hu hf ha hb hc
  by_cases hr : A * B % C = 0
  · rw [if_pos hr] at HU
    rw [HU.out]
    rw [hr] at HD
    have hq2 : ((A * B / C : Nat) : Int) ≤ 4611686018427387904 := by omega
    have hq3 : 0 ≤ ((A * B / C : Nat) : Int) := Int.natCast_nonneg _
    clear hr HU hq
    generalize ((A * B / C : Nat) : Int) = q at *
    generalize ((A * B / 18446744073709551616 : Nat) : Int) = h1 at *
    generalize ((A * B % 18446744073709551616 : Nat) : Int) = l1 at *
    go_enter Try.func95, Try.ntmps95
    go_wp2_with fail
    refine (HM.out _).mono ?_
    rintro r w1 ⟨rfl, rfl⟩
    go_wp2_with fail
    refine (HD.out _).mono ?_
    rintro r w1 ⟨rfl, n, rfl⟩
    go_wp2_with fail
    go_ret
    refine ⟨?_, _, rfl⟩
    rw [Int.add_zero]
    rfl
  · rw [if_neg hr] at HU
    rw [HU.out]
    have hq2 : ((A * B / C : Nat) : Int) ≤ 4611686018427387904 := by omega
    have hq3 : 0 ≤ ((A * B / C : Nat) : Int) := Int.natCast_nonneg _
    have hr2 : 0 < ((A * B % C : Nat) : Int) := by omega
    clear hr HU hq
    generalize ((A * B / C : Nat) : Int) = q at *
    generalize ((A * B % C : Nat) : Int) = s at *
    generalize ((A * B / 18446744073709551616 : Nat) : Int) = h1 at *
    generalize ((A * B % 18446744073709551616 : Nat) : Int) = l1 at *
    go_enter Try.func95, Try.ntmps95
    go_wp2_with fail
    refine (HM.out _).mono ?_
    rintro r w1 ⟨rfl, rfl⟩
    go_wp2_with fail
    refine (HD.out _).mono ?_
    rintro r w1 ⟨rfl, n, rfl⟩
    go_wp2_with fail
    go_ret
    exact ⟨rfl, _, rfl⟩
end Go.Proofs.Yteoikaedpgianaa
