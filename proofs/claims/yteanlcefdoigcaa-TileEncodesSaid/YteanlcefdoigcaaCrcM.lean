/- The checksum in plain Lean: the program's way (from the low bit) and the document's (from the high bit) come to the same; it tells two lists of bytes apart that differ in one byte. -/
import Derived.Test.YteanlcefdoigcaaNum
namespace Go.Proofs.Yteanlcefdoigcaa

def polyP : BitVec 32 := 0xedb88320#32
def polyR : BitVec 32 := 0x04c11db7#32
def bitP (c : BitVec 32) : BitVec 32 := if c.getLsbD 0 = true then (c >>> 1) ^^^ polyP else c >>> 1
def bitsP : Nat → BitVec 32 → BitVec 32
  | 0, c => c
  | k + 1, c => bitP (bitsP k c)
def byteP (c : BitVec 32) (x : Nat) : BitVec 32 := bitsP 8 (c ^^^ BitVec.ofNat 32 x)
/-- behind n bytes -/
def bytesP (g : Nat → Nat) : Nat → BitVec 32
  | 0 => 0xffffffff#32
  | n + 1 => byteP (bytesP g n) (g n)
def bitR (r : BitVec 32) (b : Bool) : BitVec 32 := if b = r.getLsbD 31 then r <<< 1 else (r <<< 1) ^^^ polyR
def bitsR (x : Nat) : Nat → BitVec 32 → BitVec 32
  | 0, r => r
  | k + 1, r => bitR (bitsR x k r) (x.testBit k)
def bytesR (g : Nat → Nat) : Nat → BitVec 32
  | 0 => 0xffffffff#32
  | n + 1 => bitsR (g n) 8 (bytesR g n)
theorem rev_xor (a b : BitVec 32) : (a ^^^ b).reverse = a.reverse ^^^ b.reverse := by
  apply BitVec.eq_of_getLsbD_eq
  intro i hi
  simp [BitVec.getLsbD_reverse, BitVec.getMsbD_xor]
theorem rev_shl (r : BitVec 32) : (r <<< 1).reverse = r.reverse >>> 1 := by
  apply BitVec.eq_of_getLsbD_eq
  intro i hi
  rw [BitVec.getLsbD_reverse, BitVec.getLsbD_ushiftRight, BitVec.getLsbD_reverse, BitVec.getMsbD_eq_getLsbD, BitVec.getMsbD_eq_getLsbD, BitVec.getLsbD_shiftLeft]
  by_cases h : i = 31
  · subst h; simp
  · have h1 : 32 - 1 - i < 32 := by omega
    have h2 : ¬ 32 - 1 - i < 1 := by omega
    have h3 : 32 - 1 - i - 1 = 32 - 1 - (1 + i) := by omega
    have h4 : 1 + i < 32 := by omega
    simp [hi, h1, h2, h3, h4]
theorem rev_bit (r : BitVec 32) : r.reverse.getLsbD 0 = r.getLsbD 31 := by
  rw [BitVec.getLsbD_reverse, BitVec.getMsbD_eq_getLsbD]
  simp
theorem poly_rev : polyR.reverse = polyP := by kernel_rfl
theorem link_bit (r x : BitVec 32) (k : Nat) : bitP (r.reverse ^^^ (x >>> k)) = (bitR r (x.getLsbD k)).reverse ^^^ (x >>> (k + 1)) := by
  unfold bitP bitR
  rw [BitVec.getLsbD_xor, rev_bit, BitVec.getLsbD_ushiftRight, Nat.add_zero, BitVec.ushiftRight_xor_distrib, ← BitVec.shiftRight_add]
  cases h1 : r.getLsbD 31 <;> cases h2 : x.getLsbD k
  · simp [rev_shl]
  · simp only [reduceCtorEq, if_false, if_true, Bool.xor_true, Bool.not_false, rev_shl, rev_xor, poly_rev, BitVec.xor_assoc]
    rw [BitVec.xor_comm polyP]
  · simp only [reduceCtorEq, if_false, if_true, Bool.xor_false, rev_shl, rev_xor, poly_rev, BitVec.xor_assoc]
    rw [BitVec.xor_comm polyP]
  · simp [rev_shl]
theorem link_bits (r : BitVec 32) (x : Nat) (hx : x < 256) : ∀ k, k ≤ 8 → bitsP k (r.reverse ^^^ BitVec.ofNat 32 x) = (bitsR x k r).reverse ^^^ (BitVec.ofNat 32 x >>> k)
  | 0, _ => by simp [bitsP, bitsR]
  | k + 1, h => by
    have ih := link_bits r x hx k (by omega)
    show bitP (bitsP k _) = _
    rw [ih, link_bit]
    have e : (BitVec.ofNat 32 x).getLsbD k = x.testBit k := by
      rw [BitVec.getLsbD_ofNat]
      simp
      omega
    rw [e]
    rfl
theorem byte_gone (x : Nat) (hx : x < 256) : BitVec.ofNat 32 x >>> 8 = 0#32 := by
  apply BitVec.eq_of_toNat_eq
  rw [BitVec.toNat_ushiftRight, BitVec.toNat_ofNat, Nat.mod_eq_of_lt (by omega), Nat.shiftRight_eq_div_pow]
  simp
  omega
theorem link_bytes (g : Nat → Nat) (hg : ∀ i, g i < 256) : ∀ n, bytesP g n = (bytesR g n).reverse
  | 0 => by
    show 0xffffffff#32 = (0xffffffff#32).reverse
    kernel_rfl
  | n + 1 => by
    show bitsP 8 (bytesP g n ^^^ BitVec.ofNat 32 (g n)) = _
    rw [link_bytes g hg n, link_bits _ _ (hg n) 8 (Nat.le_refl _), byte_gone _ (hg n), BitVec.xor_zero]
    rfl
/-- the reference turns the bits about -/
theorem turn_bits (r : BitVec 32) (k : Nat) (hk : k < 32) : ((r.reverse >>> (32 - k)) <<< 1) ||| ((r >>> k) &&& 1#32) = r.reverse >>> (32 - (k + 1)) := by
  apply BitVec.eq_of_getLsbD_eq
  intro i hi
  rw [BitVec.getLsbD_or, BitVec.getLsbD_shiftLeft, BitVec.getLsbD_and, BitVec.getLsbD_ushiftRight, BitVec.getLsbD_ushiftRight, BitVec.getLsbD_ushiftRight]
  by_cases h0 : i = 0
  · subst h0
    have h1 : 32 - (k + 1) + 0 < 32 := by omega
    have h2 : 32 - 1 - (32 - (k + 1) + 0) = k := by omega
    have h3 : (1#32).getLsbD 0 = true := rfl
    have h4 : r.reverse.getLsbD (32 - (k + 1) + 0) = r.getLsbD k := by
      rw [BitVec.getLsbD_reverse, BitVec.getMsbD_eq_getLsbD, h2, decide_eq_true h1]
      rfl
    rw [h4, h3]
    simp
  · have h1 : (1#32).getLsbD i = false := by
      simp [BitVec.getLsbD_one, h0]
    have h2 : ¬ i < 1 := by omega
    rw [h1, show 32 - k + (i - 1) = 32 - (k + 1) + i by omega]
    simp [hi, h2]
theorem turn_start (r : BitVec 32) : r.reverse >>> 32 = 0#32 := by
  apply BitVec.eq_of_toNat_eq
  rw [BitVec.toNat_ushiftRight]
  have := r.reverse.isLt
  rw [Nat.shiftRight_eq_div_pow]
  simp
  omega
/-- one step of the program's way can be undone -/
theorem bitP_inj {a b : BitVec 32} (h : bitP a = bitP b) : a = b := by
  have top : ∀ c : BitVec 32, (bitP c).getLsbD 31 = c.getLsbD 0 := fun c => by
    unfold bitP
    have e : polyP.getLsbD 31 = true := by decide
    cases hc : c.getLsbD 0
    · simp
    · simp [e]
  have h0 : a.getLsbD 0 = b.getLsbD 0 := by rw [← top a, ← top b, h]
  have hs : a >>> 1 = b >>> 1 := by
    unfold bitP at h
    rw [h0] at h
    cases hb : b.getLsbD 0
    · rw [hb] at h; simpa using h
    · rw [hb] at h
      simp only [if_true] at h
      exact (BitVec.xor_left_inj polyP).1 h
  apply BitVec.eq_of_getLsbD_eq
  intro i hi
  by_cases hz : i = 0
  · subst hz; exact h0
  · have := congrArg (fun x => x.getLsbD (i - 1)) hs
    simp only [BitVec.getLsbD_ushiftRight] at this
    rwa [show 1 + (i - 1) = i by omega] at this
theorem bitsP_inj {a b : BitVec 32} : ∀ k, bitsP k a = bitsP k b → a = b
  | 0, h => h
  | k + 1, h => bitsP_inj k (bitP_inj h)
theorem byteP_state {a b : BitVec 32} {x : Nat} (h : byteP a x = byteP b x) : a = b := (BitVec.xor_left_inj _).1 (bitsP_inj 8 h)
theorem byteP_byte {a : BitVec 32} {x y : Nat} (hx : x < 256) (hy : y < 256) (h : byteP a x = byteP a y) : x = y := by
  have h1 := bitsP_inj 8 h
  have h2 : BitVec.ofNat 32 x = BitVec.ofNat 32 y := by
    have := congrArg (fun c => a ^^^ c) h1
    simpa [← BitVec.xor_assoc] using this
  have := congrArg BitVec.toNat h2
  rw [BitVec.toNat_ofNat, BitVec.toNat_ofNat, Nat.mod_eq_of_lt (by omega), Nat.mod_eq_of_lt (by omega)] at this
  exact this
theorem bytesP_congr {g h : Nat → Nat} : ∀ n, (∀ i, i < n → g i = h i) → bytesP g n = bytesP h n
  | 0, _ => rfl
  | n + 1, e => by
    show byteP (bytesP g n) (g n) = byteP (bytesP h n) (h n)
    rw [bytesP_congr n (fun i hi => e i (by omega)), e n (by omega)]
/-- a change of one byte is seen -/
theorem bytesP_one {g h : Nat → Nat} (hg : ∀ i, g i < 256) (hh : ∀ i, h i < 256) {j : Nat} (hj : g j ≠ h j) (hs : ∀ i, i ≠ j → g i = h i) : ∀ n, j < n → bytesP g n ≠ bytesP h n
  | 0, hn => by omega
  | n + 1, hn => fun e => by
    have e' : byteP (bytesP g n) (g n) = byteP (bytesP h n) (h n) := e
    by_cases hjn : j = n
    · subst hjn
      rw [bytesP_congr j (fun i hi => hs i (by omega))] at e'
      exact hj (byteP_byte (hg j) (hh j) e')
    · rw [hs n (fun h => hjn h.symm)] at e'
      exact bytesP_one hg hh hj hs n (by omega) (byteP_state e')
end Go.Proofs.Yteanlcefdoigcaa
