/- Texts of the seat Yteanlcefdoigcaa, turned to this one by wip/port.py: CrcM CrcX. -/
import Derived.Test.YtpablkmdpoombaaFund
import Derived.Test.YtpablkmdpoombaaVal
import Derived.Test.YtpablkmdpoombaaPts
import Derived.Test.YtpablkmdpoombaaSrt
import Derived.Test.YtpablkmdpoombaaNum
/- CrcM -/
namespace Go.Proofs.Ytpablkmdpoombaa

def polyP : BitVec 32 := 0xedb88320#32
def polyR : BitVec 32 := 0x04c11db7#32
def bitP (c : BitVec 32) : BitVec 32 := if c.getLsbD 0 = true then (c >>> 1) ^^^ polyP else c >>> 1
def bitsP : Nat → BitVec 32 → BitVec 32
  | 0, c => c
  | k + 1, c => bitP (bitsP k c)
def byteP (c : BitVec 32) (x : Nat) : BitVec 32 := bitsP 8 (c ^^^ BitVec.ofNat 32 x)
/-- behind n bytes -/
def bytesP (g : Nat → Nat) : Nat → BitVec 32
  | 0 => 0xffffffff#32
  | n + 1 => byteP (bytesP g n) (g n)
def bitR (r : BitVec 32) (b : Bool) : BitVec 32 := if b = r.getLsbD 31 then r <<< 1 else (r <<< 1) ^^^ polyR
def bitsR (x : Nat) : Nat → BitVec 32 → BitVec 32
  | 0, r => r
  | k + 1, r => bitR (bitsR x k r) (x.testBit k)
def bytesR (g : Nat → Nat) : Nat → BitVec 32
  | 0 => 0xffffffff#32
  | n + 1 => bitsR (g n) 8 (bytesR g n)
theorem rev_xor (a b : BitVec 32) : (a ^^^ b).reverse = a.reverse ^^^ b.reverse := by
  apply BitVec.eq_of_getLsbD_eq
  intro i hi
  simp [BitVec.getLsbD_reverse, BitVec.getMsbD_xor]
theorem rev_shl (r : BitVec 32) : (r <<< 1).reverse = r.reverse >>> 1 := by
  apply BitVec.eq_of_getLsbD_eq
  intro i hi
  rw [BitVec.getLsbD_reverse, BitVec.getLsbD_ushiftRight, BitVec.getLsbD_reverse, BitVec.getMsbD_eq_getLsbD, BitVec.getMsbD_eq_getLsbD, BitVec.getLsbD_shiftLeft]
  by_cases h : i = 31
  · subst h; simp
  · have h1 : 32 - 1 - i < 32 := by omega
    have h2 : ¬ 32 - 1 - i < 1 := by omega
    have h3 : 32 - 1 - i - 1 = 32 - 1 - (1 + i) := by omega
    have h4 : 1 + i < 32 := by omega
    simp [hi, h1, h2, h3, h4]
theorem rev_bit (r : BitVec 32) : r.reverse.getLsbD 0 = r.getLsbD 31 := by
  rw [BitVec.getLsbD_reverse, BitVec.getMsbD_eq_getLsbD]
  simp
theorem poly_rev : polyR.reverse = polyP := by kernel_rfl
theorem link_bit (r x : BitVec 32) (k : Nat) : bitP (r.reverse ^^^ (x >>> k)) = (bitR r (x.getLsbD k)).reverse ^^^ (x >>> (k + 1)) := by
  unfold bitP bitR
  rw [BitVec.getLsbD_xor, rev_bit, BitVec.getLsbD_ushiftRight, Nat.add_zero, BitVec.ushiftRight_xor_distrib, ← BitVec.shiftRight_add]
  cases h1 : r.getLsbD 31 <;> cases h2 : x.getLsbD k
  · simp [rev_shl]
  · simp only [reduceCtorEq, if_false, if_true, Bool.xor_true, Bool.not_false, rev_shl, rev_xor, poly_rev, BitVec.xor_assoc]
    rw [BitVec.xor_comm polyP]
  · simp only [reduceCtorEq, if_false, if_true, Bool.xor_false, rev_shl, rev_xor, poly_rev, BitVec.xor_assoc]
    rw [BitVec.xor_comm polyP]
  · simp [rev_shl]
theorem link_bits (r : BitVec 32) (x : Nat) (hx : x < 256) : ∀ k, k ≤ 8 → bitsP k (r.reverse ^^^ BitVec.ofNat 32 x) = (bitsR x k r).reverse ^^^ (BitVec.ofNat 32 x >>> k)
  | 0, _ => by simp [bitsP, bitsR]
  | k + 1, h => by
    have ih := link_bits r x hx k (by omega)
    show bitP (bitsP k _) = _
    rw [ih, link_bit]
    have e : (BitVec.ofNat 32 x).getLsbD k = x.testBit k := by
      rw [BitVec.getLsbD_ofNat]
      simp
      omega
    rw [e]
    rfl
theorem byte_gone (x : Nat) (hx : x < 256) : BitVec.ofNat 32 x >>> 8 = 0#32 := by
  apply BitVec.eq_of_toNat_eq
  rw [BitVec.toNat_ushiftRight, BitVec.toNat_ofNat, Nat.mod_eq_of_lt (by omega), Nat.shiftRight_eq_div_pow]
  simp
  omega
theorem link_bytes (g : Nat → Nat) (hg : ∀ i, g i < 256) : ∀ n, bytesP g n = (bytesR g n).reverse
  | 0 => by
    show 0xffffffff#32 = (0xffffffff#32).reverse
    kernel_rfl
  | n + 1 => by
    show bitsP 8 (bytesP g n ^^^ BitVec.ofNat 32 (g n)) = _
    rw [link_bytes g hg n, link_bits _ _ (hg n) 8 (Nat.le_refl _), byte_gone _ (hg n), BitVec.xor_zero]
    rfl
/-- the reference turns the bits about -/
theorem turn_bits (r : BitVec 32) (k : Nat) (hk : k < 32) : ((r.reverse >>> (32 - k)) <<< 1) ||| ((r >>> k) &&& 1#32) = r.reverse >>> (32 - (k + 1)) := by
  apply BitVec.eq_of_getLsbD_eq
  intro i hi
  rw [BitVec.getLsbD_or, BitVec.getLsbD_shiftLeft, BitVec.getLsbD_and, BitVec.getLsbD_ushiftRight, BitVec.getLsbD_ushiftRight, BitVec.getLsbD_ushiftRight]
  by_cases h0 : i = 0
  · subst h0
    have h1 : 32 - (k + 1) + 0 < 32 := by omega
    have h2 : 32 - 1 - (32 - (k + 1) + 0) = k := by omega
    have h3 : (1#32).getLsbD 0 = true := rfl
    have h4 : r.reverse.getLsbD (32 - (k + 1) + 0) = r.getLsbD k := by
      rw [BitVec.getLsbD_reverse, BitVec.getMsbD_eq_getLsbD, h2, decide_eq_true h1]
      rfl
    rw [h4, h3]
    simp
  · have h1 : (1#32).getLsbD i = false := by
      simp [BitVec.getLsbD_one, h0]
    have h2 : ¬ i < 1 := by omega
    rw [h1, show 32 - k + (i - 1) = 32 - (k + 1) + i by omega]
    simp [hi, h2]
theorem turn_start (r : BitVec 32) : r.reverse >>> 32 = 0#32 := by
  apply BitVec.eq_of_toNat_eq
  rw [BitVec.toNat_ushiftRight]
  have := r.reverse.isLt
  rw [Nat.shiftRight_eq_div_pow]
  simp
  omega
/-- one step of the program's way can be undone -/
theorem bitP_inj {a b : BitVec 32} (h : bitP a = bitP b) : a = b := by
  have top : ∀ c : BitVec 32, (bitP c).getLsbD 31 = c.getLsbD 0 := fun c => by
    unfold bitP
    have e : polyP.getLsbD 31 = true := by decide
    cases hc : c.getLsbD 0
    · simp
    · simp [e]
  have h0 : a.getLsbD 0 = b.getLsbD 0 := by rw [← top a, ← top b, h]
  have hs : a >>> 1 = b >>> 1 := by
    unfold bitP at h
    rw [h0] at h
    cases hb : b.getLsbD 0
    · rw [hb] at h; simpa using h
    · rw [hb] at h
      simp only [if_true] at h
      exact (BitVec.xor_left_inj polyP).1 h
  apply BitVec.eq_of_getLsbD_eq
  intro i hi
  by_cases hz : i = 0
  · subst hz; exact h0
  · have := congrArg (fun x => x.getLsbD (i - 1)) hs
    simp only [BitVec.getLsbD_ushiftRight] at this
    rwa [show 1 + (i - 1) = i by omega] at this
theorem bitsP_inj {a b : BitVec 32} : ∀ k, bitsP k a = bitsP k b → a = b
  | 0, h => h
  | k + 1, h => bitsP_inj k (bitP_inj h)
theorem byteP_state {a b : BitVec 32} {x : Nat} (h : byteP a x = byteP b x) : a = b := (BitVec.xor_left_inj _).1 (bitsP_inj 8 h)
theorem byteP_byte {a : BitVec 32} {x y : Nat} (hx : x < 256) (hy : y < 256) (h : byteP a x = byteP a y) : x = y := by
  have h1 := bitsP_inj 8 h
  have h2 : BitVec.ofNat 32 x = BitVec.ofNat 32 y := by
    have := congrArg (fun c => a ^^^ c) h1
    simpa [← BitVec.xor_assoc] using this
  have := congrArg BitVec.toNat h2
  rw [BitVec.toNat_ofNat, BitVec.toNat_ofNat, Nat.mod_eq_of_lt (by omega), Nat.mod_eq_of_lt (by omega)] at this
  exact this
theorem bytesP_congr {g h : Nat → Nat} : ∀ n, (∀ i, i < n → g i = h i) → bytesP g n = bytesP h n
  | 0, _ => rfl
  | n + 1, e => by
    show byteP (bytesP g n) (g n) = byteP (bytesP h n) (h n)
    rw [bytesP_congr n (fun i hi => e i (by omega)), e n (by omega)]
/-- a change of one byte is seen -/
theorem bytesP_one {g h : Nat → Nat} (hg : ∀ i, g i < 256) (hh : ∀ i, h i < 256) {j : Nat} (hj : g j ≠ h j) (hs : ∀ i, i ≠ j → g i = h i) : ∀ n, j < n → bytesP g n ≠ bytesP h n
  | 0, hn => by omega
  | n + 1, hn => fun e => by
    have e' : byteP (bytesP g n) (g n) = byteP (bytesP h n) (h n) := e
    by_cases hjn : j = n
    · subst hjn
      rw [bytesP_congr j (fun i hi => hs i (by omega))] at e'
      exact hj (byteP_byte (hg j) (hh j) e')
    · rw [hs n (fun h => hjn h.symm)] at e'
      exact bytesP_one hg hh hj hs n (by omega) (byteP_state e')
end Go.Proofs.Ytpablkmdpoombaa

/- CrcX -/
namespace Go.Proofs.Ytpablkmdpoombaa
open Go.RowKit

/-- the checksum of n bytes -/
def crcV (g : Nat → Nat) (n : Nat) : Nat := (~~~(bytesP g n)).toNat
theorem not_bits (c : BitVec 32) : bits .xor .u32 IntKind.u32.max (c.toNat : Int) = ((~~~c).toNat : Int) := by
  have h := u32_xor_nat 4294967295 c.toNat (by omega) c.isLt
  rw [show bits .xor .u32 IntKind.u32.max (c.toNat : Int) = ((4294967295 ^^^ c.toNat : Nat) : Int) from h, BitVec.not_def, BitVec.toNat_xor, BitVec.toNat_allOnes]
theorem low_and (c : BitVec 32) : (bits .and .u32 (c.toNat : Int) 1 == 1) = c.getLsbD 0 := by
  have h := u32_and_nat c.toNat 1 c.isLt (by omega)
  rw [show bits .and .u32 (c.toNat : Int) 1 = ((c.toNat &&& 1 : Nat) : Int) from h, Nat.and_one_is_mod, BitVec.getLsbD, Nat.testBit_zero, Bool.eq_iff_iff, beq_iff_eq, decide_eq_true_eq]
  omega
theorem poly_xor (c : BitVec 32) : bits .xor .u32 ((c.toNat : Int) / (2 : Int)) 3988292384 = (((c >>> 1) ^^^ polyP).toNat : Int) := by
  have hc := c.isLt
  have h := u32_xor_nat (c.toNat / 2) 3988292384 (by omega) (by omega)
  rw [show bits .xor .u32 ((c.toNat : Int) / (2 : Int)) 3988292384 = ((c.toNat / 2 ^^^ 3988292384 : Nat) : Int) from h, BitVec.toNat_xor, BitVec.toNat_ushiftRight, Nat.shiftRight_eq_div_pow]
  rfl
theorem half_bits (c : BitVec 32) : (c.toNat : Int) / (2 : Int) = ((c >>> 1).toNat : Int) := by
  have h : (c >>> 1).toNat = c.toNat / 2 := by rw [BitVec.toNat_ushiftRight, Nat.shiftRight_eq_div_pow]
  rw [h]
  omega
theorem byte_xor (c : BitVec 32) (x : Nat) (hx : x < 256) : bits .xor .u32 (c.toNat : Int) ((x : Int) % 4294967296) = ((c ^^^ BitVec.ofNat 32 x).toNat : Int) := by
  have h := u32_xor_nat c.toNat x c.isLt (by omega)
  rw [show (x : Int) % 4294967296 = (x : Int) by omega, show bits .xor .u32 (c.toNat : Int) (x : Int) = ((c.toNat ^^^ x : Nat) : Int) from h, BitVec.toNat_xor, BitVec.toNat_ofNat, Nat.mod_eq_of_lt (by omega)]
set_option maxRecDepth 100000 in
set_option maxHeartbeats 800000 in
theorem xSum_any (b off n cap : Nat) (g : Nat → Nat) (w : World) (hn : n ≤ 9223372036854775807) (hg : ∀ i, g i < 256) (hc : bytesAt w b off n g) :
    Calls Try.prog 73 #[.slice (some ⟨b, off, none⟩) n cap] w fun r w' => r = .returned (.int .u32 (crcV g n : Int)) ∧ w = w' := by
  have HG := hid hg
  have HC := hid hc
  clear hg hc
  go_enter Try.func73, Try.ntmps73
  go_wp2_with fail
  go_loopw [3, 8] (fun cv iv W => ∃ i : Nat, i ≤ n ∧ iv = .int .i64 (i : Int) ∧ cv = .int .u32 ((bytesP g i).toNat : Int) ∧ w = W) (fun _ iv _ => n - (intOf iv).toNat)
  case atStart => exact ⟨0, by omega, rfl, rfl, rfl⟩
  case round =>
    obtain ⟨i, hi, rfl, rfl, rfl⟩ := hrel
    by_cases hlt : i < n
    · have d1 : decide ((i : Int) < (n : Int)) = true := decide_eq_true (by omega)
      have c0 : w.cell? ⟨b, off + i, none⟩ = some (.int .u8 (g i : Nat)) := HC.out i hlt
      go_wp2_with fail
      go_loopw [3, 16] (fun cv kv W => ∃ k : Nat, k ≤ 8 ∧ kv = .int .i64 (k : Int) ∧ cv = .int .u32 ((bitsP k (bytesP g i ^^^ BitVec.ofNat 32 (g i))).toNat : Int) ∧ w = W) (fun _ kv _ => 8 - (intOf kv).toNat)
      case atStart =>
        refine ⟨0, by omega, rfl, ?_, rfl⟩
        rw [byte_xor _ _ (HG.out i)]
        rfl
      case round =>
        obtain ⟨k, hk, rfl, rfl, rfl⟩ := hrel
        by_cases hk8 : k < 8
        · have d2 : decide ((k : Int) < 8) = true := decide_eq_true (by omega)
          obtain ⟨c, hce⟩ : ∃ c, c = bitsP k (bytesP g i ^^^ BitVec.ofNat 32 (g i)) := ⟨_, rfl⟩
          rw [← hce]
          have HCE := hid hce
          have hcb := c.isLt
          have hla := low_and c
          clear hce
          cases hb : c.getLsbD 0
          · rw [hb] at hla
            have HN := hid (show bitsP (k + 1) (bytesP g i ^^^ BitVec.ofNat 32 (g i)) = c >>> 1 by
              show bitP (bitsP k _) = _
              rw [← HCE.out]
              unfold bitP
              rw [hb]
              rfl)
            clear hb
            go_wp2_with fail
            exact ⟨⟨k + 1, by omega, by go_num, by rw [HN.out, half_bits], trivial⟩, by simp [intOf]; omega⟩
          · rw [hb] at hla
            have HN := hid (show bitsP (k + 1) (bytesP g i ^^^ BitVec.ofNat 32 (g i)) = (c >>> 1) ^^^ polyP by
              show bitP (bitsP k _) = _
              rw [← HCE.out]
              unfold bitP
              rw [hb]
              rfl)
            clear hb
            go_wp2_with fail
            exact ⟨⟨k + 1, by omega, by go_num, by rw [HN.out, poly_xor], trivial⟩, by simp [intOf]; omega⟩
        · obtain rfl : k = 8 := by omega
          go_wp2_with fail
          exact ⟨⟨i + 1, by omega, by go_num, rfl, trivial⟩, by simp [intOf]; omega⟩
    · obtain rfl : i = n := by omega
      have d1 : decide ((i : Int) < (i : Int)) = false := by simp
      have hcb := (bytesP g i).isLt
      go_wp2_with fail
      go_ret
      exact ⟨congrArg (fun z => Ending.returned (.int .u32 z)) (not_bits (bytesP g i)), rfl⟩
theorem shl_bits (c : BitVec 32) : (c.toNat : Int) * (2 : Int) % (4294967296 : Int) = ((c <<< 1).toNat : Int) := by
  have h : (c <<< 1).toNat = c.toNat * 2 % 4294967296 := by rw [BitVec.toNat_shiftLeft, Nat.shiftLeft_eq]
  rw [h]
  omega
theorem polyR_xor (c : BitVec 32) : bits .xor .u32 ((c.toNat : Int) * (2 : Int) % (4294967296 : Int)) 79764919 = (((c <<< 1) ^^^ polyR).toNat : Int) := by
  have h := u32_xor_nat (c <<< 1).toNat 79764919 (c <<< 1).isLt (by omega)
  rw [shl_bits, show bits .xor .u32 ((c <<< 1).toNat : Int) 79764919 = (((c <<< 1).toNat ^^^ 79764919 : Nat) : Int) from h, BitVec.toNat_xor]
  rfl
theorem turn_or (y x : BitVec 32) : bits .or .u32 ((y.toNat : Int) * (2 : Int) % (4294967296 : Int)) (bits .and .u32 (x.toNat : Int) 1) = (((y <<< 1) ||| (x &&& 1#32)).toNat : Int) := by
  have h1 := u32_and_nat x.toNat 1 x.isLt (by omega)
  have h2 := u32_or_nat (y <<< 1).toNat (x &&& 1#32).toNat (y <<< 1).isLt (x &&& 1#32).isLt
  have h3 : (x &&& 1#32).toNat = x.toNat &&& 1 := by rw [BitVec.toNat_and]; rfl
  rw [shl_bits, show bits .and .u32 (x.toNat : Int) 1 = ((x.toNat &&& 1 : Nat) : Int) from h1, ← h3, h2, BitVec.toNat_or]
theorem top_test (c : BitVec 32) (x k : Nat) (hx : x < 256) : (bits .and .u32 ((x : Int) / (2 : Int) ^ k % (4294967296 : Int)) 1 != (c.toNat : Int) / (2147483648 : Int)) = !(x.testBit k == c.getLsbD 31) := by
  have h1 : x / 2 ^ k ≤ x := Nat.div_le_self _ _
  have h2 : (x : Int) / (2 : Int) ^ k = ((x / 2 ^ k : Nat) : Int) := by rw [Int.natCast_ediv, Int.natCast_pow]; rfl
  have h := u32_and_nat (x / 2 ^ k) 1 (by omega) (by omega)
  have hc := c.isLt
  have e3 : (c.toNat : Int) / (2147483648 : Int) = ((c.toNat / 2147483648 : Nat) : Int) := by omega
  rw [h2, e3, BitVec.getLsbD, Nat.testBit_eq_decide_div_mod_eq, Nat.testBit_eq_decide_div_mod_eq]
  generalize x / 2 ^ k = y at *
  rw [show ((y : Nat) : Int) % (4294967296 : Int) = (y : Int) by omega, show bits .and .u32 (y : Int) 1 = ((y &&& 1 : Nat) : Int) from h, Nat.and_one_is_mod]
  have h3 : c.toNat / 2147483648 < 2 := by omega
  rw [show (2 : Nat) ^ 31 = 2147483648 from rfl]
  generalize c.toNat / 2147483648 = t at *
  have h4 : y % 2 < 2 := Nat.mod_lt _ (by omega)
  generalize y % 2 = u at *
  match u, h4, t, h3 with
  | 0, _, 0, _ => rfl
  | 0, _, 1, _ => rfl
  | 1, _, 0, _ => rfl
  | 1, _, 1, _ => rfl
set_option maxRecDepth 100000 in
set_option maxHeartbeats 800000 in
theorem rSum_any (b off n cap : Nat) (g : Nat → Nat) (w : World) (hn : n ≤ 9223372036854775807) (hg : ∀ i, g i < 256) (hc : bytesAt w b off n g) :
    Calls Try.prog 77 #[.slice (some ⟨b, off, none⟩) n cap] w fun r w' => r = .returned (.int .u32 (crcV g n : Int)) ∧ w = w' := by
  have HG := hid hg
  have HC := hid hc
  clear hg hc
  go_enter Try.func77, Try.ntmps77
  go_wp2_with fail
  go_loopw [3, 12] (fun cv iv W => ∃ i : Nat, i ≤ n ∧ iv = .int .i64 (i : Int) ∧ cv = .int .u32 ((bytesR g i).toNat : Int) ∧ w = W) (fun _ iv _ => n - (intOf iv).toNat)
  case atStart => exact ⟨0, by omega, rfl, rfl, rfl⟩
  case round =>
    obtain ⟨i, hi, rfl, rfl, rfl⟩ := hrel
    by_cases hlt : i < n
    · have d1 : decide ((i : Int) < (n : Int)) = true := decide_eq_true (by omega)
      go_wp2_with fail
      go_loopw [3, 5] (fun cv kv W => ∃ k : Nat, k ≤ 8 ∧ kv = .int .i64 (k : Int) ∧ cv = .int .u32 ((bitsR (g i) k (bytesR g i)).toNat : Int) ∧ w = W) (fun _ kv _ => 8 - (intOf kv).toNat)
      case atStart => exact ⟨0, by omega, rfl, rfl, rfl⟩
      case round =>
        obtain ⟨k, hk, rfl, rfl, rfl⟩ := hrel
        by_cases hk8 : k < 8
        · have d2 : decide ((k : Int) < 8) = true := decide_eq_true (by omega)
          have c0 : w.cell? ⟨b, off + i, none⟩ = some (.int .u8 (g i : Nat)) := HC.out i hlt
          obtain ⟨c, hce⟩ : ∃ c, c = bitsR (g i) k (bytesR g i) := ⟨_, rfl⟩
          rw [← hce]
          have HCE := hid hce
          have hcb := c.isLt
          have hgb := HG.out i
          have htt := top_test c (g i) k hgb
          clear hce
          cases hb : ((g i).testBit k == c.getLsbD 31)
          · rw [hb] at htt
            simp only [Bool.not_false] at htt
            have HN := hid (show bitsR (g i) (k + 1) (bytesR g i) = (c <<< 1) ^^^ polyR by
              show bitR (bitsR (g i) k _) _ = _
              rw [← HCE.out]
              unfold bitR
              rw [if_neg (by simpa using hb)])
            clear hb
            go_wp2_with fail
            exact ⟨⟨k + 1, by omega, by go_num, by rw [HN.out, polyR_xor], trivial⟩, by simp [intOf]; omega⟩
          · rw [hb] at htt
            simp only [Bool.not_true] at htt
            have HN := hid (show bitsR (g i) (k + 1) (bytesR g i) = c <<< 1 by
              show bitR (bitsR (g i) k _) _ = _
              rw [← HCE.out]
              unfold bitR
              rw [if_pos (by simpa using hb)])
            clear hb
            go_wp2_with fail
            exact ⟨⟨k + 1, by omega, by go_num, by rw [HN.out, shl_bits], trivial⟩, by simp [intOf]; omega⟩
        · obtain rfl : k = 8 := by omega
          go_wp2_with fail
          exact ⟨⟨i + 1, by omega, by go_num, rfl, trivial⟩, by simp [intOf]; omega⟩
    · obtain rfl : i = n := by omega
      have d1 : decide ((i : Int) < (i : Int)) = false := by simp
      obtain ⟨c, hce⟩ : ∃ c, c = bytesR g i := ⟨_, rfl⟩
      rw [← hce]
      have HCE := hid hce
      have hcb := c.isLt
      clear hce
      go_wp2_with fail
      go_loopw [3, 8, 9] (fun cv ov kv W => ∃ k : Nat, k ≤ 32 ∧ kv = .int .i64 (k : Int) ∧ cv = .int .u32 ((c >>> k).toNat : Int) ∧ ov = .int .u32 ((c.reverse >>> (32 - k)).toNat : Int) ∧ w = W) (fun _ _ kv _ => 32 - (intOf kv).toNat)
      case atStart => exact ⟨0, by omega, rfl, rfl, by rw [turn_start]; rfl, rfl⟩
      case round =>
        obtain ⟨k, hk, rfl, rfl, rfl, rfl⟩ := hrel
        by_cases hk32 : k < 32
        · have d2 : decide ((k : Int) < 32) = true := decide_eq_true (by omega)
          obtain ⟨x, hx⟩ : ∃ x, x = c >>> k := ⟨_, rfl⟩
          obtain ⟨y, hy⟩ : ∃ y, y = c.reverse >>> (32 - k) := ⟨_, rfl⟩
          rw [← hx, ← hy]
          have HX := hid hx
          have HY := hid hy
          have hxb := x.isLt
          have hyb := y.isLt
          have HN1 := hid (show c >>> (k + 1) = x >>> 1 by rw [BitVec.shiftRight_add, hx])
          have HN2 := hid (show c.reverse >>> (32 - (k + 1)) = (y <<< 1) ||| (x &&& 1#32) by rw [hx, hy, turn_bits c k hk32])
          clear hx hy
          go_wp2_with fail
          exact ⟨⟨k + 1, by omega, by go_num, by rw [HN1.out, half_bits], by rw [HN2.out, turn_or], trivial⟩, by simp [intOf]; omega⟩
        · obtain rfl : k = 32 := by omega
          have HE := hid (show (bytesP g i) = c.reverse >>> (32 - 32) by rw [link_bytes g HG.out i, ← HCE.out]; rfl)
          rw [← HE.out]
          have hcb2 := (bytesP g i).isLt
          go_wp2_with fail
          go_ret
          exact ⟨congrArg (fun z => Ending.returned (.int .u32 z)) (not_bits (bytesP g i)), rfl⟩
end Go.Proofs.Ytpablkmdpoombaa

