/- Plain facts on the division of 128 bits by 64 bits, by guesses of 32 bits. No program in sight. Go's count of leading zeros of a number of 64 bits. Go's product of two numbers of 64 bits. Go's quotient of 128 bits by 64 bits. -/
import Derived.Test.YteoikaedpgianaaRCore
import Derived.Lib.Strings
import Derived.Lib.Slices
import Derived.Lib.Small
import Derived.Lib.Walk
import Derived.Lib.BitFns
import Derived.Deep.Light
import Derived.Lib.Mul64
import Derived.Laws.Bits64b
namespace Go.Proofs.Yteoikaedpgianaa

/-- what a guess and its rest are: the guess is not too small -/
structure KnInv (y1 u Q a b : Int) : Prop where
  sum : a * y1 + b = u
  low : Q ≤ a
theorem kn_test {y1 y0 u d q r : Int} (h : q * y1 + r = u) : q * (y1 * 4294967296 + y0) ≤ u * 4294967296 + d ↔ q * y0 ≤ 4294967296 * r + d := by
  subst h
  rw [Int.mul_add, ← Int.mul_assoc]
  generalize q * y1 = m
  generalize q * y0 = n
  omega
/-- the test that lowers the guess: the guess is too great -/
theorem kn_high {y1 y0 u d a b : Int} (h1 : 0 < y1) (h0 : 0 ≤ y0) (hu : u < y1 * 4294967296 + y0) (hd : d ≤ 4294967295) (h : KnInv y1 u ((u * 4294967296 + d) / (y1 * 4294967296 + y0)) a b)
    (ht : 4294967296 ≤ a ∨ 4294967296 * b + d < a * y0) : KnInv y1 u ((u * 4294967296 + d) / (y1 * 4294967296 + y0)) (a - 1) (b + y1) := by
  refine ⟨by rw [Int.sub_mul, ← h.sum]; omega, ?_⟩
  have hy : 0 < y1 * 4294967296 + y0 := by omega
  have key : (u * 4294967296 + d) / (y1 * 4294967296 + y0) < a := by
    rw [Int.ediv_lt_iff_lt_mul hy]
    rcases ht with ht | ht
    · have := Int.mul_le_mul_of_nonneg_right ht (Int.le_of_lt hy)
      omega
    · rcases Int.lt_or_le (u * 4294967296 + d) (a * (y1 * 4294967296 + y0)) with h2 | h2
      · exact h2
      · have := (kn_test h.sum).1 h2
        omega
  omega
/-- the guess is right -/
theorem kn_low {y1 y0 u d a b : Int} (h1 : 0 < y1) (h0 : 0 ≤ y0) (h : KnInv y1 u ((u * 4294967296 + d) / (y1 * 4294967296 + y0)) a b) (ht : a * y0 ≤ 4294967296 * b + d) :
    a = (u * 4294967296 + d) / (y1 * 4294967296 + y0) :=
  Int.le_antisymm ((Int.le_ediv_iff_mul_le (by omega)).2 ((kn_test h.sum).2 ht)) h.low
/-- the end of the guessing where the rest has become great -/
theorem kn_end {y1 y0 u d a b : Int} (h1 : 0 < y1) (h0 : 0 ≤ y0) (h02 : y0 ≤ 4294967295) (hd : 0 ≤ d) (h : KnInv y1 u ((u * 4294967296 + d) / (y1 * 4294967296 + y0)) a b) (ha2 : a ≤ 4294967296) (hb : 4294967296 ≤ b) :
    a = (u * 4294967296 + d) / (y1 * 4294967296 + y0) := by
  refine kn_low h1 h0 h ?_
  have h2 := Int.mul_le_mul ha2 h02 h0 (by omega)
  omega
/-- the first guess -/
theorem kn_start {y1 y0 u d : Int} (h1 : 2147483648 ≤ y1) (h0 : 0 ≤ y0) (h02 : y0 ≤ 4294967295) (hu0 : 0 ≤ u) (hu : u < y1 * 4294967296 + y0) (hd : d ≤ 4294967295) :
    KnInv y1 u ((u * 4294967296 + d) / (y1 * 4294967296 + y0)) (u / y1) (u % y1) ∧ 0 ≤ u / y1 ∧ u / y1 ≤ 4294967297 ∧ 0 ≤ u % y1 ∧ u % y1 < y1 := by
  refine ⟨⟨Int.ediv_mul_add_emod u y1, ?_⟩, Int.ediv_nonneg hu0 (by omega), ?_, Int.emod_nonneg _ (by omega), Int.emod_lt_of_pos _ (by omega)⟩
  · rw [Int.le_ediv_iff_mul_le (by omega)]
    have h2 := Int.ediv_mul_le (u * 4294967296 + d) (show y1 * 4294967296 + y0 ≠ 0 by omega)
    have h3 : 0 ≤ (u * 4294967296 + d) / (y1 * 4294967296 + y0) ∨ (u * 4294967296 + d) / (y1 * 4294967296 + y0) < 0 := by omega
    generalize (u * 4294967296 + d) / (y1 * 4294967296 + y0) = Q at *
    rcases h3 with h3 | h3
    · have h4 := Int.mul_nonneg h3 h0
      rw [Int.mul_add, ← Int.mul_assoc] at h2
      generalize Q * y1 = m at *
      generalize Q * y0 = n at *
      omega
    · have := Int.mul_neg_of_neg_of_pos h3 (show 0 < y1 by omega)
      omega
  · have : u / y1 < 4294967298 := by
      rw [Int.ediv_lt_iff_lt_mul (by omega)]
      omega
    omega
/-- a digit -/
theorem kn_digit {y u d : Int} (hu0 : 0 ≤ u) (hd0 : 0 ≤ d) (hd : d ≤ 4294967295) (hu : u < y) : 0 ≤ (u * 4294967296 + d) / y ∧ (u * 4294967296 + d) / y ≤ 4294967295 := by
  refine ⟨Int.ediv_nonneg (by omega) (by omega), ?_⟩
  have : (u * 4294967296 + d) / y < 4294967296 := by
    rw [Int.ediv_lt_iff_lt_mul (by omega)]
    omega
  omega
/-- two digits make the quotient -/
theorem kn_two {B n0 y a : Int} (hy : 0 < y) :
    (a * B + n0) / y = a / y * B + (a % y * B + n0) / y ∧ (a * B + n0) % y = (a % y * B + n0) % y := by
  have h : a * B + n0 = (a % y * B + n0) + y * (a / y * B) := by
    have h1 := Int.mul_ediv_add_emod a y
    have h2 : y * (a / y * B) = y * (a / y) * B := (Int.mul_assoc _ _ _).symm
    rw [h2]
    generalize y * (a / y) = m at *
    generalize a % y = r at *
    rw [← h1, Int.add_mul]
    omega
  rw [h, Int.add_mul_ediv_left _ _ (by omega), Int.add_mul_emod_self_left]
  exact ⟨Int.add_comm _ _, rfl⟩
end Go.Proofs.Yteoikaedpgianaa
namespace Go.Proofs.Yteoikaedpgianaa
open Go.RowKit Go.Lib

set_option maxRecDepth 100000 in
theorem lz_size : (Lib.len8tab.size : Int) = 256 := by
  have : Lib.len8tab.size = 256 := by decide
  omega
theorem lz_add (k a b : Nat) (hk : k ≤ 56) (ha : a ≤ 8) (hb : b = k + a) : RowKit.wrap64 ((k : Int) + RowKit.wrap64 (a : Int)) = (b : Int) := by
  unfold RowKit.wrap64
  omega
theorem lz_wrap (a : Nat) (ha : a ≤ 8) : RowKit.wrap64 (RowKit.wrap64 (a : Int)) = (a : Int) := by
  unfold RowKit.wrap64
  omega
theorem lz_get (y : Int) (h : y.toNat < Lib.len8tab.size) : ((Lib.len8tab[y.toNat]'h).toNat : Int) = Lib.len8 y := by
  unfold Lib.len8
  rw [getElem?_pos Lib.len8tab y.toNat h]
  rfl

set_option maxHeartbeats 32000000 in
set_option maxRecDepth 1000000 in
theorem len64_any (x : Int) (w : World) (h0 : 0 ≤ x) (h1 : x ≤ 18446744073709551615) :
    Calls Try.prog 175 #[.int .u64 x] w fun e w' => e = .returned (.int .i64 (Lib.bitLen x.toNat)) ∧ w = w' := by
  go_enter Try.func175, Try.ntmps175
  go_wp2
  all_goals first
    | (go_ret; refine ⟨congrArg Ending.returned (congrArg (Value.int IntKind.i64) ?_), rfl⟩; go_light)
    | (exfalso
       go_light
       have hs := lz_size
       omega)
  all_goals first
    | (rw [lz_get (x / 4294967296 / 65536 / 256) _, Lib.len8_of (x / 4294967296 / 65536 / 256) (by omega) (by omega)]
       have e : (x / 4294967296 / 65536 / 256).toNat = x.toNat / 72057594037927936 := by omega
       have l := Lib.bitLen_le8' (x / 4294967296 / 65536 / 256) (by omega) (by omega)
       have s := Lib.bitLen_shift56 x.toNat (by omega) (by omega)
       rw [e] at l ⊢
       exact lz_add 56 _ _ (by decide) l s)
    | (rw [lz_get (x / 4294967296 / 65536) _, Lib.len8_of (x / 4294967296 / 65536) (by omega) (by omega)]
       have e : (x / 4294967296 / 65536).toNat = x.toNat / 281474976710656 := by omega
       have l := Lib.bitLen_le8' (x / 4294967296 / 65536) (by omega) (by omega)
       have s := Lib.bitLen_shift48 x.toNat (by omega) (by omega)
       rw [e] at l ⊢
       exact lz_add 48 _ _ (by decide) l s)
    | (rw [lz_get (x / 4294967296 / 256) _, Lib.len8_of (x / 4294967296 / 256) (by omega) (by omega)]
       have e : (x / 4294967296 / 256).toNat = x.toNat / 1099511627776 := by omega
       have l := Lib.bitLen_le8' (x / 4294967296 / 256) (by omega) (by omega)
       have s := Lib.bitLen_shift40 x.toNat (by omega) (by omega)
       rw [e] at l ⊢
       exact lz_add 40 _ _ (by decide) l s)
    | (rw [lz_get (x / 4294967296) _, Lib.len8_of (x / 4294967296) (by omega) (by omega)]
       have e : (x / 4294967296).toNat = x.toNat / 4294967296 := by omega
       have l := Lib.bitLen_le8' (x / 4294967296) (by omega) (by omega)
       have s := Lib.bitLen_shift32 x.toNat (by omega) (by omega)
       rw [e] at l ⊢
       exact lz_add 32 _ _ (by decide) l s)
    | (rw [lz_get (x / 65536 / 256) _, Lib.len8_of (x / 65536 / 256) (by omega) (by omega)]
       have e : (x / 65536 / 256).toNat = x.toNat / 16777216 := by omega
       have l := Lib.bitLen_le8' (x / 65536 / 256) (by omega) (by omega)
       have s := Lib.bitLen_shift24 x.toNat (by omega) (by omega)
       rw [e] at l ⊢
       exact lz_add 24 _ _ (by decide) l s)
    | (rw [lz_get (x / 65536) _, Lib.len8_of (x / 65536) (by omega) (by omega)]
       have e : (x / 65536).toNat = x.toNat / 65536 := by omega
       have l := Lib.bitLen_le8' (x / 65536) (by omega) (by omega)
       have s := Lib.bitLen_shift16 x.toNat (by omega) (by omega)
       rw [e] at l ⊢
       exact lz_add 16 _ _ (by decide) l s)
    | (rw [lz_get (x / 256) _, Lib.len8_of (x / 256) (by omega) (by omega)]
       have e : (x / 256).toNat = x.toNat / 256 := by omega
       have l := Lib.bitLen_le8' (x / 256) (by omega) (by omega)
       have s := Lib.bitLen_shift8 x.toNat (by omega) (by omega)
       rw [e] at l ⊢
       exact lz_add 8 _ _ (by decide) l s)
    | (rw [lz_get (x) _, Lib.len8_of (x) (by omega) (by omega)]
       have e : (x).toNat = x.toNat := by omega
       have l := Lib.bitLen_le8' (x) (by omega) (by omega)
       rw [e] at l ⊢
       first | exact lz_wrap _ l | exact lz_add 0 _ _ (by decide) l (by omega) | exact lz_one _ l)
/-- how many zeros stand ahead of a number of 64 bits -/
def lzV (y : Nat) : Nat := 64 - Lib.bitLen y
theorem bitLen_bounds : ∀ (k x : Nat), x < 2 ^ k → k ≤ 64 → x ≠ 0 → 2 ^ (Lib.bitLen x - 1) ≤ x ∧ x < 2 ^ Lib.bitLen x ∧ 1 ≤ Lib.bitLen x
  | 0, x, h, _, h0 => by simp at h; omega
  | k + 1, x, h, hk, h0 => by
    have hx : x < 2 ^ 64 := Nat.lt_of_lt_of_le h (Nat.pow_le_pow_right (by omega) hk)
    rw [Lib.bitLen_half x h0 hx]
    by_cases h1 : x / 2 = 0
    · rw [h1, show Lib.bitLen 0 = 0 by decide]
      omega
    · obtain ⟨a, b, c⟩ := bitLen_bounds k (x / 2) (by rw [Nat.pow_succ] at h; omega) (by omega) h1
      obtain ⟨j, hj⟩ : ∃ j, Lib.bitLen (x / 2) = j + 1 := ⟨_, (Nat.sub_add_cancel c).symm⟩
      rw [hj] at a b ⊢
      rw [Nat.add_sub_cancel] at a
      rw [show 1 + (j + 1) - 1 = j + 1 by omega, show 1 + (j + 1) = (j + 1) + 1 by omega, Nat.pow_succ 2 (j + 1)]
      rw [Nat.pow_succ] at b ⊢
      omega
theorem lzV_bounds {y : Nat} (h0 : y ≠ 0) (h : y < 18446744073709551616) : lzV y ≤ 63 ∧ 9223372036854775808 ≤ y * 2 ^ lzV y ∧ y * 2 ^ lzV y < 18446744073709551616 := by
  obtain ⟨a, b, c⟩ := bitLen_bounds 64 y h (Nat.le_refl _) h0
  have d := Lib.bitLen_le y 64 (Nat.le_refl _) h
  unfold lzV
  refine ⟨by omega, ?_, ?_⟩
  · refine Nat.le_trans (Nat.le_of_eq ?_) (Nat.mul_le_mul_right _ a)
    rw [← Nat.pow_add, show Lib.bitLen y - 1 + (64 - Lib.bitLen y) = 63 by omega]
  · refine Nat.lt_of_lt_of_le (Nat.mul_lt_mul_of_pos_right b (Nat.two_pow_pos _)) (Nat.le_of_eq ?_)
    rw [← Nat.pow_add, show Lib.bitLen y + (64 - Lib.bitLen y) = 64 by omega]

set_option maxRecDepth 100000 in
theorem lz_any (y : Nat) (w : World) (h : y < 18446744073709551616) :
    Calls Try.prog 160 #[.int .u64 (y : Int)] w fun e w' => e = .returned (.int .i64 (lzV y : Nat)) ∧ w = w' := by
  have hc := len64_any (y : Int) w (by omega) (by omega)
  rw [Int.toNat_natCast] at hc
  have d := Lib.bitLen_le y 64 (Nat.le_refl _) h
  have hz : ((lzV y : Nat) : Int) = 64 - (Lib.bitLen y : Nat) := by unfold lzV; omega
  rw [hz]
  go_enter Try.func160, Try.ntmps160
  go_wp2_with fail
  refine hc.mono ?_
  rintro r w1 ⟨rfl, rfl⟩
  go_wp2_with fail
  go_ret
  refine ⟨?_, rfl⟩
  show Ending.returned (Value.int .i64 _) = Ending.returned (Value.int .i64 _)
  congr 2
end Go.Proofs.Yteoikaedpgianaa
namespace Go.Proofs.Yteoikaedpgianaa
open Go.RowKit Go.Lib

theorem maskN (a : Nat) (ha : a < 18446744073709551616) : bits .and .u64 (a : Int) 4294967295 = ((a % 4294967296 : Nat) : Int) := by
  have h := bits_and_u64_nat a 4294967295 ha (by omega)
  have e : a &&& 4294967295 = a % 4294967296 := Nat.and_two_pow_sub_one_eq_mod a 32
  rw [e] at h
  exact h
theorem half32 (a : Nat) : (a : Int) / 4294967296 = ((a / 4294967296 : Nat) : Int) := by omega
theorem mulN (a b : Nat) : (a : Int) * (b : Int) = ((a * b : Nat) : Int) := (Int.natCast_mul a b).symm
theorem addN (a b : Nat) : (a : Int) + (b : Int) = ((a + b : Nat) : Int) := (Int.natCast_add a b).symm
theorem wrapN (a : Nat) (ha : a < 18446744073709551616) : IntKind.u64.wrap (a : Int) = (a : Int) := by rw [IntKind.wrap_u64]; omega
theorem wrapM (a : Nat) : IntKind.u64.wrap (a : Int) = ((a % 18446744073709551616 : Nat) : Int) := by rw [IntKind.wrap_u64]; omega

set_option maxRecDepth 100000 in
theorem mul64_any (x y : Nat) (hx : x < 18446744073709551616) (hy : y < 18446744073709551616) (w : World) :
    Calls Try.prog 142 #[.int .u64 (x : Int), .int .u64 (y : Int)] w fun e w' => e = .returned (.tuple #[.int .u64 ((x * y / 18446744073709551616 : Nat) : Int), .int .u64 ((x * y % 18446744073709551616 : Nat) : Int)]) ∧ w = w' := by
  obtain ⟨bd, bt, bw, hhi⟩ := Lib.mul64_hi x y hx hy
  have ba := Lib.half_mul_le (a := x / 4294967296) (b := y / 4294967296) (by omega) (by omega)
  have bb := Lib.half_mul_le (a := x / 4294967296) (b := y % 4294967296) (by omega) (by omega)
  have bc := Lib.half_mul_le (a := x % 4294967296) (b := y / 4294967296) (by omega) (by omega)
  have ba' : x / 4294967296 * (y / 4294967296) < 18446744073709551616 := by omega
  have bb' : x / 4294967296 * (y % 4294967296) < 18446744073709551616 := by omega
  have bc' : x % 4294967296 * (y / 4294967296) < 18446744073709551616 := by omega
  have bh1 : x / 4294967296 * (y / 4294967296) + (x / 4294967296 * (y % 4294967296) + x % 4294967296 * (y % 4294967296) / 4294967296) / 4294967296 < 18446744073709551616 := by omega
  have bh : x / 4294967296 * (y / 4294967296) + (x / 4294967296 * (y % 4294967296) + x % 4294967296 * (y % 4294967296) / 4294967296) / 4294967296 + ((x / 4294967296 * (y % 4294967296) + x % 4294967296 * (y % 4294967296) / 4294967296) % 4294967296 + x % 4294967296 * (y / 4294967296)) / 4294967296 < 18446744073709551616 := by omega
  go_enter Try.func142, Try.ntmps142
  go_wp2
  simp only [maskN x hx, maskN y hy, half32, mulN, addN, wrapN _ bd, wrapN _ bb', wrapN _ bt, maskN _ bt, wrapN _ bc', wrapN _ bw, wrapN _ ba', wrapN _ bh1, wrapN _ bh, wrapM (x * y)]
  rw [hhi]
  go_ret2
  exact ⟨rfl, rfl⟩
end Go.Proofs.Yteoikaedpgianaa
namespace Go.Proofs.Yteoikaedpgianaa
open Go.RowKit Go.Lib

set_option maxRecDepth 100000 in
theorem div64_low (lo y : Nat) (w : World) (hy : 0 < y) (hlo : lo < 18446744073709551616) :
    Calls Try.prog 143 #[.int .u64 0, .int .u64 (lo : Int), .int .u64 (y : Int)] w fun e w' => e = .returned (.tuple #[.int .u64 ((lo / y : Nat) : Int), .int .u64 ((lo % y : Nat) : Int)]) ∧ ∃ n, w' = w.drewN n := by
  have h1 : ((y : Int) == 0) = false := by rw [beq_eq_false_iff_ne]; omega
  have h2 : decide ((y : Int) ≤ 0) = false := by rw [decide_eq_false_iff_not]; omega
  have hd : (lo : Int).tdiv (y : Int) = ((lo / y : Nat) : Int) := Int.ofNat_tdiv lo y
  have hm : (lo : Int).tmod (y : Int) = ((lo % y : Nat) : Int) := Int.ofNat_tmod lo y
  have hw := wrapN (lo / y) (Nat.lt_of_le_of_lt (Nat.div_le_self _ _) hlo)
  have hw2 := wrapN (lo % y) (Nat.lt_of_le_of_lt (Nat.mod_le _ _) hlo)
  have H1 := hid hlo
  clear hlo
  generalize lo / y = dv at *
  generalize lo % y = md at *
  go_enter Try.func143, Try.ntmps143
  go_wp2_with fail
  go_quiet (fail)
  go_wp2_with fail
  go_ret2
  exact ⟨rfl, _, rfl⟩
theorem div64_norm (hi lo y S : Nat) (hlo : lo < 18446744073709551616) (hy : hi < y) (hb : S ≤ 63 ∧ 9223372036854775808 ≤ y * 2 ^ S ∧ y * 2 ^ S < 18446744073709551616) :
    ∃ Y V U : Int, IntKind.u64.wrap ((y : Int) * 2 ^ S) = Y ∧ bits .or .u64 (IntKind.u64.wrap ((hi : Int) * 2 ^ S)) ((lo : Int) / 2 ^ (64 - S)) = U ∧ IntKind.u64.wrap ((lo : Int) * 2 ^ S) = V ∧
      9223372036854775808 ≤ Y ∧ Y ≤ 18446744073709551615 ∧ 0 ≤ V ∧ V ≤ 18446744073709551615 ∧ 0 ≤ U ∧ U < Y ∧
      ((((hi * 18446744073709551616 + lo) / y : Nat) : Int) = (U * 18446744073709551616 + V) / Y ∧ (((hi * 18446744073709551616 + lo) % y : Nat) : Int) = (U * 18446744073709551616 + V) % Y / 2 ^ S) := by
  obtain ⟨hS, h1, h2⟩ := hb
  have hp := Nat.two_pow_pos S
  have hpp : 2 ^ (64 - S) * 2 ^ S = 18446744073709551616 := by rw [← Nat.pow_add, show 64 - S + S = 64 by omega]
  have hld : lo * 2 ^ S / 18446744073709551616 = lo / 2 ^ (64 - S) := by rw [← hpp]; exact Nat.mul_div_mul_right _ _ hp
  have hlt : lo / 2 ^ (64 - S) < 2 ^ S := by
    rw [Nat.div_lt_iff_lt_mul (Nat.two_pow_pos _), Nat.mul_comm, hpp]
    exact hlo
  have hhi : hi * 2 ^ S + 2 ^ S ≤ y * 2 ^ S := by
    have := Nat.mul_le_mul_right (2 ^ S) (show hi + 1 ≤ y from hy)
    rw [Nat.add_mul, Nat.one_mul] at this
    exact this
  have hc : ∀ a : Nat, (a : Int) * 2 ^ S = ((a * 2 ^ S : Nat) : Int) := fun a => by rw [Int.natCast_mul, Int.natCast_pow]; rfl
  have hdm := Nat.div_add_mod (lo * 2 ^ S) 18446744073709551616
  rw [hld] at hdm
  have hsum : (hi * 18446744073709551616 + lo) * 2 ^ S = (hi * 2 ^ S + lo / 2 ^ (64 - S)) * 18446744073709551616 + lo * 2 ^ S % 18446744073709551616 := by
    rw [Nat.add_mul, Nat.mul_right_comm, Nat.add_mul]
    omega
  have h3 : ((hi * 18446744073709551616 + lo) / y) = ((hi * 2 ^ S + lo / 2 ^ (64 - S)) * 18446744073709551616 + lo * 2 ^ S % 18446744073709551616) / (y * 2 ^ S) := by rw [← hsum, Nat.mul_div_mul_right _ _ hp]
  have h4 : ((hi * 18446744073709551616 + lo) % y) = ((hi * 2 ^ S + lo / 2 ^ (64 - S)) * 18446744073709551616 + lo * 2 ^ S % 18446744073709551616) % (y * 2 ^ S) / 2 ^ S := by rw [← hsum, Nat.mul_mod_mul_right, Nat.mul_div_cancel _ hp]
  have hVm := Nat.mod_lt (lo * 2 ^ S) (show 0 < 18446744073709551616 by omega)
  rw [h3, h4]
  refine ⟨((y * 2 ^ S : Nat) : Int), ((lo * 2 ^ S % 18446744073709551616 : Nat) : Int), ((hi * 2 ^ S + lo / 2 ^ (64 - S) : Nat) : Int), ?_, ?_, ?_, by omega, by omega, by omega, by omega, by omega, by omega, ?_, ?_⟩
  · rw [hc, wrapN _ h2]
  · rw [hc, wrapN _ (by omega)]
    have e : (lo : Int) / 2 ^ (64 - S) = ((lo / 2 ^ (64 - S) : Nat) : Int) := by rw [Int.natCast_ediv, Int.natCast_pow]; rfl
    rw [e, bits_or_u64_nat _ _ (by omega) (by omega)]
    congr 1
    rw [Nat.mul_comm hi]
    exact (Nat.two_pow_add_eq_or_of_lt hlt hi).symm
  · rw [hc, wrapM]
  · rw [Int.natCast_ediv, Int.natCast_add, Int.natCast_mul (hi * 2 ^ S + lo / 2 ^ (64 - S))]; rfl
  · rw [Int.natCast_ediv, Int.natCast_emod, Int.natCast_add, Int.natCast_mul (hi * 2 ^ S + lo / 2 ^ (64 - S)), Int.natCast_pow]; rfl
theorem wrapI {a : Int} (h : 0 ≤ a) (h2 : a ≤ 18446744073709551615) : IntKind.u64.wrap a = a := by rw [IntKind.wrap_u64]; omega
/-- the facts of one digit of the quotient, as the walk spells them -/
theorem kn_facts {Y y1 y0 u d : Int} (hY : Y = y1 * 4294967296 + y0) (h1 : 2147483648 ≤ y1) (h12 : y1 ≤ 4294967295) (h0 : 0 ≤ y0) (h02 : y0 ≤ 4294967295) (hu0 : 0 ≤ u) (hu : u < Y) (hd0 : 0 ≤ d) (hd : d ≤ 4294967295) :
    ∃ Q R q r : Int, Q = (u * 4294967296 + d) / Y ∧ R = (u * 4294967296 + d) % Y ∧ 0 ≤ Q ∧ Q ≤ 4294967295 ∧ 0 ≤ R ∧ R < Y ∧ IntKind.u64.wrap (u / y1) = q ∧ u / y1 = q ∧ IntKind.u64.wrap (u - IntKind.u64.wrap (q * y1)) = r ∧ KnInv y1 u Q q r ∧ 0 ≤ q ∧ q ≤ 4294967297 ∧ 0 ≤ r ∧ r ≤ 4294967295 ∧
      IntKind.u64.wrap (IntKind.u64.wrap (IntKind.u64.wrap (u * 4294967296) + d) - IntKind.u64.wrap (Q * Y)) = R := by
  have hs := kn_start (u := u) (d := d) h1 h0 h02 hu0 (by omega) hd
  have hg := kn_digit (y := Y) hu0 hd0 hd hu
  have hr := Int.emod_nonneg (u * 4294967296 + d) (show Y ≠ 0 by omega)
  have hr2 := Int.emod_lt_of_pos (u * 4294967296 + d) (show 0 < Y by omega)
  have hdm := Int.mul_ediv_add_emod (u * 4294967296 + d) Y
  rw [← hY] at hs
  obtain ⟨hs1, hs2, hs3, hs4, hs5⟩ := hs
  have hsum := hs1.sum
  refine ⟨_, _, u / y1, u % y1, rfl, rfl, hg.1, hg.2, hr, hr2, wrapI hs2 (by omega), rfl, ?_, hs1, hs2, hs3, hs4, by omega, ?_⟩
  · have h3 := Int.mul_nonneg hs2 (show 0 ≤ y1 by omega)
    rw [wrapI (a := u / y1 * y1) h3 (by omega), wrapI (by omega) (by omega)]
    omega
  · rw [Int.mul_comm] at hdm
    generalize (u * 4294967296 + d) / Y = Q at *
    generalize (u * 4294967296 + d) % Y = R at *
    generalize Q * Y = m at *
    rw [IntKind.wrap_u64, IntKind.wrap_u64, IntKind.wrap_u64, IntKind.wrap_u64]
    omega
set_option maxRecDepth 100000 in
set_option maxHeartbeats 1600000 in
theorem div64_high (hi lo y : Nat) (w : World) (h0 : 0 < hi) (hlo : lo < 18446744073709551616) (hy : hi < y) (hy2 : y < 18446744073709551616) :
    Calls Try.prog 143 #[.int .u64 (hi : Int), .int .u64 (lo : Int), .int .u64 (y : Int)] w fun e w' => e = .returned (.tuple #[.int .u64 (((hi * 18446744073709551616 + lo) / y : Nat) : Int), .int .u64 (((hi * 18446744073709551616 + lo) % y : Nat) : Int)]) ∧ ∃ n, w' = w.drewN n := by
  have HLZ := hid (fun w => lz_any y w hy2)
  have hb := lzV_bounds (show y ≠ 0 by omega) hy2
  have h1 : ((y : Int) == 0) = false := by rw [beq_eq_false_iff_ne]; omega
  have h2 : decide ((y : Int) ≤ (hi : Int)) = false := by rw [decide_eq_false_iff_not]; omega
  have h3 : ((hi : Int) == 0) = false := by rw [beq_eq_false_iff_ne]; omega
  generalize lzV y = S at *
  obtain ⟨Y, V, U, e1, e4, e5, hYl, hYh, hV0, hV, hU0, hU, HR⟩ := div64_norm hi lo y S hlo hy hb
  rw [HR.1, HR.2]
  clear HR
  obtain ⟨hS, hb1, hb2⟩ := hb
  clear hb1 hb2
  have hV64 := Int.mul_ediv_add_emod V 4294967296
  have hY64 := Int.mul_ediv_add_emod Y 4294967296
  obtain ⟨y1, e2⟩ : ∃ y1, Y / 4294967296 = y1 := ⟨_, rfl⟩
  obtain ⟨y0, e3⟩ : ∃ y0, Y % 4294967296 = y0 := ⟨_, rfl⟩
  obtain ⟨v1, e6⟩ : ∃ v1, V / 4294967296 = v1 := ⟨_, rfl⟩
  obtain ⟨v0, e7⟩ : ∃ v0, V % 4294967296 = v0 := ⟨_, rfl⟩
  have f3 : bits .and .u64 Y 4294967295 = y0 := by
    obtain ⟨n, rfl⟩ := Int.eq_ofNat_of_zero_le (show 0 ≤ Y by omega)
    rw [maskN n (by omega), ← e3]; rfl
  have f7 : bits .and .u64 V 4294967295 = v0 := by
    obtain ⟨n, rfl⟩ := Int.eq_ofNat_of_zero_le hV0
    rw [maskN n (by omega), ← e7]; rfl
  have h4 : (y1 == 0) = false := by rw [beq_eq_false_iff_ne]; omega
  have hy1p : 2147483648 ≤ y1 := by omega
  have hy1n : y1 ≤ 4294967295 := by omega
  have hy00 : 0 ≤ y0 := by omega
  have hy0n : y0 ≤ 4294967295 := by omega
  have hv10 : 0 ≤ v1 := by omega
  have hv1n : v1 ≤ 4294967295 := by omega
  have hv00 : 0 ≤ v0 := by omega
  have hv0n : v0 ≤ 4294967295 := by omega
  have hyy : Y = y1 * 4294967296 + y0 := by omega
  have hvv : U * 18446744073709551616 + V = (U * 4294967296 + v1) * 4294967296 + v0 := by omega
  have k2 := kn_two (B := 4294967296) (n0 := v0) (a := U * 4294967296 + v1) (show 0 < Y by omega)
  rw [hvv, k2.1, k2.2]
  clear k2
  obtain ⟨Q1, R1, q1, r1, hQ1, hR1, g1, g2, g3, g4, a1, aa, a2, a3, a4, a5, a6, a7, a8⟩ := kn_facts hyy hy1p hy1n hy00 hy0n hU0 hU hv10 hv1n
  rw [← hQ1, ← hR1]
  obtain ⟨Q0, R0, q0, r0, hQ0, hR0, k1, k2, k3, k4, b1, bb, b2, b3, b4, b5, b6, b7, b8⟩ := kn_facts hyy hy1p hy1n hy00 hy0n g3 g4 hv00 hv0n
  rw [← hQ0, ← hR0]
  have HS15 := hid (And.intro a3 (And.intro a4 (And.intro a5 (And.intro a6 a7))))
  have HS18 := hid (And.intro b3 (And.intro b4 (And.intro b5 (And.intro b6 b7))))
  have HH15 := hid (show ∀ a b, KnInv y1 U Q1 a b → (4294967296 ≤ a ∨ 4294967296 * b + v1 < a * y0) → KnInv y1 U Q1 (a - 1) (b + y1) by rw [hQ1, hyy]; exact fun a b h => kn_high (by omega) hy00 (by omega) hv1n h)
  have HH18 := hid (show ∀ a b, KnInv y1 R1 Q0 a b → (4294967296 ≤ a ∨ 4294967296 * b + v0 < a * y0) → KnInv y1 R1 Q0 (a - 1) (b + y1) by rw [hQ0, hyy]; exact fun a b h => kn_high (by omega) hy00 (by omega) hv0n h)
  have HE15 := hid (show ∀ a b, KnInv y1 U Q1 a b → a ≤ 4294967296 → 4294967296 ≤ b → a = Q1 by rw [hQ1, hyy]; exact fun a b h h' h'' => kn_end (by omega) hy00 hy0n hv10 h h' h'')
  have HE18 := hid (show ∀ a b, KnInv y1 R1 Q0 a b → a ≤ 4294967296 → 4294967296 ≤ b → a = Q0 by rw [hQ0, hyy]; exact fun a b h h' h'' => kn_end (by omega) hy00 hy0n hv00 h h' h'')
  have HF15 := hid (show ∀ a b, KnInv y1 U Q1 a b → a * y0 ≤ 4294967296 * b + v1 → a = Q1 by rw [hQ1, hyy]; exact fun a b h h' => kn_low (by omega) hy00 h h')
  have HF18 := hid (show ∀ a b, KnInv y1 R1 Q0 a b → a * y0 ≤ 4294967296 * b + v0 → a = Q0 by rw [hQ0, hyy]; exact fun a b h h' => kn_low (by omega) hy00 h h')
  clear hlo hy2 e3 e7 hV64 hY64 hyy hvv hQ1 hR1 hQ0 hR0 a3 b3
  go_enter Try.func143, Try.ntmps143
  go_wp2_with fail
  refine (HLZ.out _).mono ?_
  rintro r w1 ⟨rfl, rfl⟩
  go_wp2_with fail
  go_loop [15, 16] (fun q r => ∃ a b : Int, q = .int .u64 a ∧ r = .int .u64 b ∧ KnInv y1 U Q1 a b ∧ 0 ≤ a ∧ a ≤ 4294967297 ∧ 0 ≤ b ∧ b ≤ 4294967295) (fun q _ => (RowKit.intOf q).toNat)
  case atStart => exact ⟨_, _, rfl, rfl, by (try rw [aa]); (try rw [bb]); exact HS15.out⟩
  case round =>
    obtain ⟨a, b, rfl, rfl, hI, ha0, ha, hb0, hb⟩ := hrel
    obtain ⟨P, hP⟩ : ∃ P, P = a * y0 := ⟨_, rfl⟩
    have HI := hid hI
    have HP := hid hP
    clear hI hP
    by_cases ht : 4294967296 ≤ a
    · have HI2 := hid (HH15.out a b HI.out (Or.inl ht))
      by_cases hbr : 4294967296 ≤ b + y1
      · have hE := HE15.out _ _ HI2.out (by omega) hbr
        go_wp2_with fail
        go_loop [18, 16] (fun q r => ∃ a b : Int, q = .int .u64 a ∧ r = .int .u64 b ∧ KnInv y1 R1 Q0 a b ∧ 0 ≤ a ∧ a ≤ 4294967297 ∧ 0 ≤ b ∧ b ≤ 4294967295) (fun q _ => (RowKit.intOf q).toNat)
        case atStart => exact ⟨_, _, rfl, rfl, by (try rw [aa]); (try rw [bb]); exact HS18.out⟩
        case round =>
          obtain ⟨a, b, rfl, rfl, hI, ha0, ha, hb0, hb⟩ := hrel
          obtain ⟨P, hP⟩ : ∃ P, P = a * y0 := ⟨_, rfl⟩
          have HI := hid hI
          have HP := hid hP
          clear hI hP
          by_cases ht : 4294967296 ≤ a
          · have HI2 := hid (HH18.out a b HI.out (Or.inl ht))
            by_cases hbr : 4294967296 ≤ b + y1
            · have hE := HE18.out _ _ HI2.out (by omega) hbr
              go_wp2_with fail
              go_ret2
              exact ⟨rfl, 0, rfl⟩
            · go_wp2_with fail
              exact ⟨⟨_, _, rfl, rfl, HI2.out, by omega, by omega, by omega, by omega⟩, by simp [RowKit.intOf]; omega⟩
          · have hPl : 0 ≤ P ∧ P ≤ 18446744073709551615 := by
              have h := Int.mul_le_mul (show a ≤ 4294967295 by omega) (show y0 ≤ 4294967295 by omega) hy00 (by omega)
              have h2 := Int.mul_nonneg ha0 hy00
              rw [HP.out]
              omega
            have ep : IntKind.u64.wrap (a * y0) = P := by rw [← HP.out, wrapI hPl.1 hPl.2]
            obtain ⟨hP0, hP1⟩ := hPl
            by_cases ht2 : 4294967296 * b + v0 < P
            · have HI2 := hid (HH18.out a b HI.out (Or.inr (by rw [← HP.out]; exact ht2)))
              have hap : 1 ≤ a := by
                rcases Int.lt_or_le a 1 with h | h
                · have h3 := HP.out
                  rw [show a = 0 by omega, Int.zero_mul] at h3
                  omega
                · exact h
              by_cases hbr : 4294967296 ≤ b + y1
              · have hE := HE18.out _ _ HI2.out (by omega) hbr
                go_wp2_with fail
                go_ret2
                exact ⟨rfl, 0, rfl⟩
              · go_wp2_with fail
                exact ⟨⟨_, _, rfl, rfl, HI2.out, by omega, by omega, by omega, by omega⟩, by simp [RowKit.intOf]; omega⟩
            · have hE := (HF18.out _ _ HI.out (by rw [← HP.out]; omega)).symm
              subst hE
              go_wp2_with fail
              go_ret2
              exact ⟨rfl, 0, rfl⟩
      · go_wp2_with fail
        exact ⟨⟨_, _, rfl, rfl, HI2.out, by omega, by omega, by omega, by omega⟩, by simp [RowKit.intOf]; omega⟩
    · have hPl : 0 ≤ P ∧ P ≤ 18446744073709551615 := by
        have h := Int.mul_le_mul (show a ≤ 4294967295 by omega) (show y0 ≤ 4294967295 by omega) hy00 (by omega)
        have h2 := Int.mul_nonneg ha0 hy00
        rw [HP.out]
        omega
      have ep : IntKind.u64.wrap (a * y0) = P := by rw [← HP.out, wrapI hPl.1 hPl.2]
      obtain ⟨hP0, hP1⟩ := hPl
      by_cases ht2 : 4294967296 * b + v1 < P
      · have HI2 := hid (HH15.out a b HI.out (Or.inr (by rw [← HP.out]; exact ht2)))
        have hap : 1 ≤ a := by
          rcases Int.lt_or_le a 1 with h | h
          · have h3 := HP.out
            rw [show a = 0 by omega, Int.zero_mul] at h3
            omega
          · exact h
        by_cases hbr : 4294967296 ≤ b + y1
        · have hE := HE15.out _ _ HI2.out (by omega) hbr
          go_wp2_with fail
          go_loop [18, 16] (fun q r => ∃ a b : Int, q = .int .u64 a ∧ r = .int .u64 b ∧ KnInv y1 R1 Q0 a b ∧ 0 ≤ a ∧ a ≤ 4294967297 ∧ 0 ≤ b ∧ b ≤ 4294967295) (fun q _ => (RowKit.intOf q).toNat)
          case atStart => exact ⟨_, _, rfl, rfl, by (try rw [aa]); (try rw [bb]); exact HS18.out⟩
          case round =>
            obtain ⟨a, b, rfl, rfl, hI, ha0, ha, hb0, hb⟩ := hrel
            obtain ⟨P, hP⟩ : ∃ P, P = a * y0 := ⟨_, rfl⟩
            have HI := hid hI
            have HP := hid hP
            clear hI hP
            by_cases ht : 4294967296 ≤ a
            · have HI2 := hid (HH18.out a b HI.out (Or.inl ht))
              by_cases hbr : 4294967296 ≤ b + y1
              · have hE := HE18.out _ _ HI2.out (by omega) hbr
                go_wp2_with fail
                go_ret2
                exact ⟨rfl, 0, rfl⟩
              · go_wp2_with fail
                exact ⟨⟨_, _, rfl, rfl, HI2.out, by omega, by omega, by omega, by omega⟩, by simp [RowKit.intOf]; omega⟩
            · have hPl : 0 ≤ P ∧ P ≤ 18446744073709551615 := by
                have h := Int.mul_le_mul (show a ≤ 4294967295 by omega) (show y0 ≤ 4294967295 by omega) hy00 (by omega)
                have h2 := Int.mul_nonneg ha0 hy00
                rw [HP.out]
                omega
              have ep : IntKind.u64.wrap (a * y0) = P := by rw [← HP.out, wrapI hPl.1 hPl.2]
              obtain ⟨hP0, hP1⟩ := hPl
              by_cases ht2 : 4294967296 * b + v0 < P
              · have HI2 := hid (HH18.out a b HI.out (Or.inr (by rw [← HP.out]; exact ht2)))
                have hap : 1 ≤ a := by
                  rcases Int.lt_or_le a 1 with h | h
                  · have h3 := HP.out
                    rw [show a = 0 by omega, Int.zero_mul] at h3
                    omega
                  · exact h
                by_cases hbr : 4294967296 ≤ b + y1
                · have hE := HE18.out _ _ HI2.out (by omega) hbr
                  go_wp2_with fail
                  go_ret2
                  exact ⟨rfl, 0, rfl⟩
                · go_wp2_with fail
                  exact ⟨⟨_, _, rfl, rfl, HI2.out, by omega, by omega, by omega, by omega⟩, by simp [RowKit.intOf]; omega⟩
              · have hE := (HF18.out _ _ HI.out (by rw [← HP.out]; omega)).symm
                subst hE
                go_wp2_with fail
                go_ret2
                exact ⟨rfl, 0, rfl⟩
        · go_wp2_with fail
          exact ⟨⟨_, _, rfl, rfl, HI2.out, by omega, by omega, by omega, by omega⟩, by simp [RowKit.intOf]; omega⟩
      · have hE := (HF15.out _ _ HI.out (by rw [← HP.out]; omega)).symm
        subst hE
        go_wp2_with fail
        go_loop [18, 16] (fun q r => ∃ a b : Int, q = .int .u64 a ∧ r = .int .u64 b ∧ KnInv y1 R1 Q0 a b ∧ 0 ≤ a ∧ a ≤ 4294967297 ∧ 0 ≤ b ∧ b ≤ 4294967295) (fun q _ => (RowKit.intOf q).toNat)
        case atStart => exact ⟨_, _, rfl, rfl, by (try rw [aa]); (try rw [bb]); exact HS18.out⟩
        case round =>
          obtain ⟨a, b, rfl, rfl, hI, ha0, ha, hb0, hb⟩ := hrel
          obtain ⟨P, hP⟩ : ∃ P, P = a * y0 := ⟨_, rfl⟩
          have HI := hid hI
          have HP := hid hP
          clear hI hP
          by_cases ht : 4294967296 ≤ a
          · have HI2 := hid (HH18.out a b HI.out (Or.inl ht))
            by_cases hbr : 4294967296 ≤ b + y1
            · have hE := HE18.out _ _ HI2.out (by omega) hbr
              go_wp2_with fail
              go_ret2
              exact ⟨rfl, 0, rfl⟩
            · go_wp2_with fail
              exact ⟨⟨_, _, rfl, rfl, HI2.out, by omega, by omega, by omega, by omega⟩, by simp [RowKit.intOf]; omega⟩
          · have hPl : 0 ≤ P ∧ P ≤ 18446744073709551615 := by
              have h := Int.mul_le_mul (show a ≤ 4294967295 by omega) (show y0 ≤ 4294967295 by omega) hy00 (by omega)
              have h2 := Int.mul_nonneg ha0 hy00
              rw [HP.out]
              omega
            have ep : IntKind.u64.wrap (a * y0) = P := by rw [← HP.out, wrapI hPl.1 hPl.2]
            obtain ⟨hP0, hP1⟩ := hPl
            by_cases ht2 : 4294967296 * b + v0 < P
            · have HI2 := hid (HH18.out a b HI.out (Or.inr (by rw [← HP.out]; exact ht2)))
              have hap : 1 ≤ a := by
                rcases Int.lt_or_le a 1 with h | h
                · have h3 := HP.out
                  rw [show a = 0 by omega, Int.zero_mul] at h3
                  omega
                · exact h
              by_cases hbr : 4294967296 ≤ b + y1
              · have hE := HE18.out _ _ HI2.out (by omega) hbr
                go_wp2_with fail
                go_ret2
                exact ⟨rfl, 0, rfl⟩
              · go_wp2_with fail
                exact ⟨⟨_, _, rfl, rfl, HI2.out, by omega, by omega, by omega, by omega⟩, by simp [RowKit.intOf]; omega⟩
            · have hE := (HF18.out _ _ HI.out (by rw [← HP.out]; omega)).symm
              subst hE
              go_wp2_with fail
              go_ret2
              exact ⟨rfl, 0, rfl⟩
end Go.Proofs.Yteoikaedpgianaa
