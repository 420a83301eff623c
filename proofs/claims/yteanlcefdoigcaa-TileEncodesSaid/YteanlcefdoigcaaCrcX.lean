/- The checksums: what the program's (110) and the reference's (121) return. -/
import Derived.Test.YteanlcefdoigcaaCrcM
namespace Go.Proofs.Yteanlcefdoigcaa
open Go.RowKit

/-- the checksum of n bytes -/
def crcV (g : Nat → Nat) (n : Nat) : Nat := (~~~(bytesP g n)).toNat
theorem not_bits (c : BitVec 32) : bits .xor .u32 IntKind.u32.max (c.toNat : Int) = ((~~~c).toNat : Int) := by
  have h := u32_xor_nat 4294967295 c.toNat (by omega) c.isLt
  rw [show bits .xor .u32 IntKind.u32.max (c.toNat : Int) = ((4294967295 ^^^ c.toNat : Nat) : Int) from h, BitVec.not_def, BitVec.toNat_xor, BitVec.toNat_allOnes]
theorem low_and (c : BitVec 32) : (bits .and .u32 (c.toNat : Int) 1 == 1) = c.getLsbD 0 := by
  have h := u32_and_nat c.toNat 1 c.isLt (by omega)
  rw [show bits .and .u32 (c.toNat : Int) 1 = ((c.toNat &&& 1 : Nat) : Int) from h, Nat.and_one_is_mod, BitVec.getLsbD, Nat.testBit_zero, Bool.eq_iff_iff, beq_iff_eq, decide_eq_true_eq]
  omega
theorem poly_xor (c : BitVec 32) : bits .xor .u32 ((c.toNat : Int) / (2 : Int)) 3988292384 = (((c >>> 1) ^^^ polyP).toNat : Int) := by
  have hc := c.isLt
  have h := u32_xor_nat (c.toNat / 2) 3988292384 (by omega) (by omega)
  rw [show bits .xor .u32 ((c.toNat : Int) / (2 : Int)) 3988292384 = ((c.toNat / 2 ^^^ 3988292384 : Nat) : Int) from h, BitVec.toNat_xor, BitVec.toNat_ushiftRight, Nat.shiftRight_eq_div_pow]
  rfl
theorem half_bits (c : BitVec 32) : (c.toNat : Int) / (2 : Int) = ((c >>> 1).toNat : Int) := by
  have h : (c >>> 1).toNat = c.toNat / 2 := by rw [BitVec.toNat_ushiftRight, Nat.shiftRight_eq_div_pow]
  rw [h]
  omega
theorem byte_xor (c : BitVec 32) (x : Nat) (hx : x < 256) : bits .xor .u32 (c.toNat : Int) ((x : Int) % 4294967296) = ((c ^^^ BitVec.ofNat 32 x).toNat : Int) := by
  have h := u32_xor_nat c.toNat x c.isLt (by omega)
  rw [show (x : Int) % 4294967296 = (x : Int) by omega, show bits .xor .u32 (c.toNat : Int) (x : Int) = ((c.toNat ^^^ x : Nat) : Int) from h, BitVec.toNat_xor, BitVec.toNat_ofNat, Nat.mod_eq_of_lt (by omega)]
set_option maxRecDepth 100000 in
set_option maxHeartbeats 800000 in
theorem xSum_any (b off n cap : Nat) (g : Nat → Nat) (w : World) (hn : n ≤ 9223372036854775807) (hg : ∀ i, g i < 256) (hc : bytesAt w b off n g) :
    Calls Try.prog 110 #[.slice (some ⟨b, off, none⟩) n cap] w fun r w' => r = .returned (.int .u32 (crcV g n : Int)) ∧ w = w' := by
  have HG := hid hg
  have HC := hid hc
  clear hg hc
  go_enter Try.func110, Try.ntmps110
  go_wp2_with fail
  go_loopw [3, 8] (fun cv iv W => ∃ i : Nat, i ≤ n ∧ iv = .int .i64 (i : Int) ∧ cv = .int .u32 ((bytesP g i).toNat : Int) ∧ w = W) (fun _ iv _ => n - (intOf iv).toNat)
  case atStart => exact ⟨0, by omega, rfl, rfl, rfl⟩
  case round =>
    obtain ⟨i, hi, rfl, rfl, rfl⟩ := hrel
    by_cases hlt : i < n
    · have d1 : decide ((i : Int) < (n : Int)) = true := decide_eq_true (by omega)
      have c0 : w.cell? ⟨b, off + i, none⟩ = some (.int .u8 (g i : Nat)) := HC.out i hlt
      go_wp2_with fail
      go_loopw [3, 16] (fun cv kv W => ∃ k : Nat, k ≤ 8 ∧ kv = .int .i64 (k : Int) ∧ cv = .int .u32 ((bitsP k (bytesP g i ^^^ BitVec.ofNat 32 (g i))).toNat : Int) ∧ w = W) (fun _ kv _ => 8 - (intOf kv).toNat)
      case atStart =>
        refine ⟨0, by omega, rfl, ?_, rfl⟩
        rw [byte_xor _ _ (HG.out i)]
        rfl
      case round =>
        obtain ⟨k, hk, rfl, rfl, rfl⟩ := hrel
        by_cases hk8 : k < 8
        · have d2 : decide ((k : Int) < 8) = true := decide_eq_true (by omega)
          obtain ⟨c, hce⟩ : ∃ c, c = bitsP k (bytesP g i ^^^ BitVec.ofNat 32 (g i)) := ⟨_, rfl⟩
          rw [← hce]
          have HCE := hid hce
          have hcb := c.isLt
          have hla := low_and c
          clear hce
          cases hb : c.getLsbD 0
          · rw [hb] at hla
            have HN := hid (show bitsP (k + 1) (bytesP g i ^^^ BitVec.ofNat 32 (g i)) = c >>> 1 by
              show bitP (bitsP k _) = _
              rw [← HCE.out]
              unfold bitP
              rw [hb]
              rfl)
            clear hb
            go_wp2_with fail
            exact ⟨⟨k + 1, by omega, by go_num, by rw [HN.out, half_bits], trivial⟩, by simp [intOf]; omega⟩
          · rw [hb] at hla
            have HN := hid (show bitsP (k + 1) (bytesP g i ^^^ BitVec.ofNat 32 (g i)) = (c >>> 1) ^^^ polyP by
              show bitP (bitsP k _) = _
              rw [← HCE.out]
              unfold bitP
              rw [hb]
              rfl)
            clear hb
            go_wp2_with fail
            exact ⟨⟨k + 1, by omega, by go_num, by rw [HN.out, poly_xor], trivial⟩, by simp [intOf]; omega⟩
        · obtain rfl : k = 8 := by omega
          go_wp2_with fail
          exact ⟨⟨i + 1, by omega, by go_num, rfl, trivial⟩, by simp [intOf]; omega⟩
    · obtain rfl : i = n := by omega
      have d1 : decide ((i : Int) < (i : Int)) = false := by simp
      have hcb := (bytesP g i).isLt
      go_wp2_with fail
      go_ret
      exact ⟨congrArg (fun z => Ending.returned (.int .u32 z)) (not_bits (bytesP g i)), rfl⟩
theorem shl_bits (c : BitVec 32) : (c.toNat : Int) * (2 : Int) % (4294967296 : Int) = ((c <<< 1).toNat : Int) := by
  have h : (c <<< 1).toNat = c.toNat * 2 % 4294967296 := by rw [BitVec.toNat_shiftLeft, Nat.shiftLeft_eq]
  rw [h]
  omega
theorem polyR_xor (c : BitVec 32) : bits .xor .u32 ((c.toNat : Int) * (2 : Int) % (4294967296 : Int)) 79764919 = (((c <<< 1) ^^^ polyR).toNat : Int) := by
  have h := u32_xor_nat (c <<< 1).toNat 79764919 (c <<< 1).isLt (by omega)
  rw [shl_bits, show bits .xor .u32 ((c <<< 1).toNat : Int) 79764919 = (((c <<< 1).toNat ^^^ 79764919 : Nat) : Int) from h, BitVec.toNat_xor]
  rfl
theorem turn_or (y x : BitVec 32) : bits .or .u32 ((y.toNat : Int) * (2 : Int) % (4294967296 : Int)) (bits .and .u32 (x.toNat : Int) 1) = (((y <<< 1) ||| (x &&& 1#32)).toNat : Int) := by
  have h1 := u32_and_nat x.toNat 1 x.isLt (by omega)
  have h2 := u32_or_nat (y <<< 1).toNat (x &&& 1#32).toNat (y <<< 1).isLt (x &&& 1#32).isLt
  have h3 : (x &&& 1#32).toNat = x.toNat &&& 1 := by rw [BitVec.toNat_and]; rfl
  rw [shl_bits, show bits .and .u32 (x.toNat : Int) 1 = ((x.toNat &&& 1 : Nat) : Int) from h1, ← h3, h2, BitVec.toNat_or]
theorem top_test (c : BitVec 32) (x k : Nat) (hx : x < 256) : (bits .and .u32 ((x : Int) / (2 : Int) ^ k % (4294967296 : Int)) 1 != (c.toNat : Int) / (2147483648 : Int)) = !(x.testBit k == c.getLsbD 31) := by
  have h1 : x / 2 ^ k ≤ x := Nat.div_le_self _ _
  have h2 : (x : Int) / (2 : Int) ^ k = ((x / 2 ^ k : Nat) : Int) := by rw [Int.natCast_ediv, Int.natCast_pow]; rfl
  have h := u32_and_nat (x / 2 ^ k) 1 (by omega) (by omega)
  have hc := c.isLt
  have e3 : (c.toNat : Int) / (2147483648 : Int) = ((c.toNat / 2147483648 : Nat) : Int) := by omega
  rw [h2, e3, BitVec.getLsbD, Nat.testBit_eq_decide_div_mod_eq, Nat.testBit_eq_decide_div_mod_eq]
  generalize x / 2 ^ k = y at *
  rw [show ((y : Nat) : Int) % (4294967296 : Int) = (y : Int) by omega, show bits .and .u32 (y : Int) 1 = ((y &&& 1 : Nat) : Int) from h, Nat.and_one_is_mod]
  have h3 : c.toNat / 2147483648 < 2 := by omega
  rw [show (2 : Nat) ^ 31 = 2147483648 from rfl]
  generalize c.toNat / 2147483648 = t at *
  have h4 : y % 2 < 2 := Nat.mod_lt _ (by omega)
  generalize y % 2 = u at *
  match u, h4, t, h3 with
  | 0, _, 0, _ => rfl
  | 0, _, 1, _ => rfl
  | 1, _, 0, _ => rfl
  | 1, _, 1, _ => rfl
set_option maxRecDepth 100000 in
set_option maxHeartbeats 800000 in
theorem rSum_any (b off n cap : Nat) (g : Nat → Nat) (w : World) (hn : n ≤ 9223372036854775807) (hg : ∀ i, g i < 256) (hc : bytesAt w b off n g) :
    Calls Try.prog 121 #[.slice (some ⟨b, off, none⟩) n cap] w fun r w' => r = .returned (.int .u32 (crcV g n : Int)) ∧ w = w' := by
  have HG := hid hg
  have HC := hid hc
  clear hg hc
  go_enter Try.func121, Try.ntmps121
  go_wp2_with fail
  go_loopw [3, 12] (fun cv iv W => ∃ i : Nat, i ≤ n ∧ iv = .int .i64 (i : Int) ∧ cv = .int .u32 ((bytesR g i).toNat : Int) ∧ w = W) (fun _ iv _ => n - (intOf iv).toNat)
  case atStart => exact ⟨0, by omega, rfl, rfl, rfl⟩
  case round =>
    obtain ⟨i, hi, rfl, rfl, rfl⟩ := hrel
    by_cases hlt : i < n
    · have d1 : decide ((i : Int) < (n : Int)) = true := decide_eq_true (by omega)
      go_wp2_with fail
      go_loopw [3, 5] (fun cv kv W => ∃ k : Nat, k ≤ 8 ∧ kv = .int .i64 (k : Int) ∧ cv = .int .u32 ((bitsR (g i) k (bytesR g i)).toNat : Int) ∧ w = W) (fun _ kv _ => 8 - (intOf kv).toNat)
      case atStart => exact ⟨0, by omega, rfl, rfl, rfl⟩
      case round =>
        obtain ⟨k, hk, rfl, rfl, rfl⟩ := hrel
        by_cases hk8 : k < 8
        · have d2 : decide ((k : Int) < 8) = true := decide_eq_true (by omega)
          have c0 : w.cell? ⟨b, off + i, none⟩ = some (.int .u8 (g i : Nat)) := HC.out i hlt
          obtain ⟨c, hce⟩ : ∃ c, c = bitsR (g i) k (bytesR g i) := ⟨_, rfl⟩
          rw [← hce]
          have HCE := hid hce
          have hcb := c.isLt
          have hgb := HG.out i
          have htt := top_test c (g i) k hgb
          clear hce
          cases hb : ((g i).testBit k == c.getLsbD 31)
          · rw [hb] at htt
            simp only [Bool.not_false] at htt
            have HN := hid (show bitsR (g i) (k + 1) (bytesR g i) = (c <<< 1) ^^^ polyR by
              show bitR (bitsR (g i) k _) _ = _
              rw [← HCE.out]
              unfold bitR
              rw [if_neg (by simpa using hb)])
            clear hb
            go_wp2_with fail
            exact ⟨⟨k + 1, by omega, by go_num, by rw [HN.out, polyR_xor], trivial⟩, by simp [intOf]; omega⟩
          · rw [hb] at htt
            simp only [Bool.not_true] at htt
            have HN := hid (show bitsR (g i) (k + 1) (bytesR g i) = c <<< 1 by
              show bitR (bitsR (g i) k _) _ = _
              rw [← HCE.out]
              unfold bitR
              rw [if_pos (by simpa using hb)])
            clear hb
            go_wp2_with fail
            exact ⟨⟨k + 1, by omega, by go_num, by rw [HN.out, shl_bits], trivial⟩, by simp [intOf]; omega⟩
        · obtain rfl : k = 8 := by omega
          go_wp2_with fail
          exact ⟨⟨i + 1, by omega, by go_num, rfl, trivial⟩, by simp [intOf]; omega⟩
    · obtain rfl : i = n := by omega
      have d1 : decide ((i : Int) < (i : Int)) = false := by simp
      obtain ⟨c, hce⟩ : ∃ c, c = bytesR g i := ⟨_, rfl⟩
      rw [← hce]
      have HCE := hid hce
      have hcb := c.isLt
      clear hce
      go_wp2_with fail
      go_loopw [3, 8, 9] (fun cv ov kv W => ∃ k : Nat, k ≤ 32 ∧ kv = .int .i64 (k : Int) ∧ cv = .int .u32 ((c >>> k).toNat : Int) ∧ ov = .int .u32 ((c.reverse >>> (32 - k)).toNat : Int) ∧ w = W) (fun _ _ kv _ => 32 - (intOf kv).toNat)
      case atStart => exact ⟨0, by omega, rfl, rfl, by rw [turn_start]; rfl, rfl⟩
      case round =>
        obtain ⟨k, hk, rfl, rfl, rfl, rfl⟩ := hrel
        by_cases hk32 : k < 32
        · have d2 : decide ((k : Int) < 32) = true := decide_eq_true (by omega)
          obtain ⟨x, hx⟩ : ∃ x, x = c >>> k := ⟨_, rfl⟩
          obtain ⟨y, hy⟩ : ∃ y, y = c.reverse >>> (32 - k) := ⟨_, rfl⟩
          rw [← hx, ← hy]
          have HX := hid hx
          have HY := hid hy
          have hxb := x.isLt
          have hyb := y.isLt
          have HN1 := hid (show c >>> (k + 1) = x >>> 1 by rw [BitVec.shiftRight_add, hx])
          have HN2 := hid (show c.reverse >>> (32 - (k + 1)) = (y <<< 1) ||| (x &&& 1#32) by rw [hx, hy, turn_bits c k hk32])
          clear hx hy
          go_wp2_with fail
          exact ⟨⟨k + 1, by omega, by go_num, by rw [HN1.out, half_bits], by rw [HN2.out, turn_or], trivial⟩, by simp [intOf]; omega⟩
        · obtain rfl : k = 32 := by omega
          have HE := hid (show (bytesP g i) = c.reverse >>> (32 - 32) by rw [link_bytes g HG.out i, ← HCE.out]; rfl)
          rw [← HE.out]
          have hcb2 := (bytesP g i).isLt
          go_wp2_with fail
          go_ret
          exact ⟨congrArg (fun z => Ending.returned (.int .u32 z)) (not_bits (bytesP g i)), rfl⟩
end Go.Proofs.Yteanlcefdoigcaa
