/- Texts of the seat Yteanlcefdoigcaa, turned to this one by wip/port.py: CrcM CrcX. -/
import Derived.Test.YtcclpdfmmdonpaaGreatXBas
import Derived.Test.YtcclpdfmmdonpaaGreatXMap
import Derived.Test.YtcclpdfmmdonpaaGreatXSrt
import Derived.Test.YtcclpdfmmdonpaaGreatXLay
import Derived.Test.YtcclpdfmmdonpaaGreatXRla
import Derived.Test.YtcclpdfmmdonpaaGreatXTil
import Derived.Test.YtcclpdfmmdonpaaGreatXApp
import Derived.Test.YtcclpdfmmdonpaaGreatRows
import Derived.Test.YtcclpdfmmdonpaaGreatXVal
import Derived.Test.YtcclpdfmmdonpaaGreatXRst
import Derived.Test.YtcclpdfmmdonpaaGreatXNum
namespace Go.Proofs.YtcclpdfmmdonpaaGreat
def polyP : BitVec 32 := 0xedb88320#32
def bitP (c : BitVec 32) : BitVec 32 := if c.getLsbD 0 = true then (c >>> 1) ^^^ polyP else c >>> 1
def bitsP : Nat -> BitVec 32 -> BitVec 32
  | 0, c => c
  | k + 1, c => bitP (bitsP k c)
def byteP (c : BitVec 32) (x : Nat) : BitVec 32 := bitsP 8 (c ^^^ BitVec.ofNat 32 x)
def bytesP (g : Nat -> Nat) : Nat -> BitVec 32
  | 0 => 0xffffffff#32
  | n + 1 => byteP (bytesP g n) (g n)
theorem bytesP_congr {g h : Nat -> Nat} : ∀ n, (∀ i, i < n -> g i = h i) -> bytesP g n = bytesP h n
  | 0, _ => rfl
  | n + 1, e => by
    show byteP (bytesP g n) (g n) = byteP (bytesP h n) (h n); rw [bytesP_congr n (fun i hi => e i (by omega)), e n (by omega)]
open Go.RowKit
def crcV (g : Nat -> Nat) (n : Nat) : Nat := (~~~(bytesP g n)).toNat
theorem not_bits (c : BitVec 32) : bits .xor .u32 IntKind.u32.max (c.toNat : Int) = ((~~~c).toNat : Int) := by
  have h := u32_xor_nat 4294967295 c.toNat (by omega) c.isLt; rw [show bits .xor .u32 IntKind.u32.max (c.toNat : Int) = ((4294967295 ^^^ c.toNat : Nat) : Int) from h, BitVec.not_def, BitVec.toNat_xor, BitVec.toNat_allOnes]
theorem low_and (c : BitVec 32) : (bits .and .u32 (c.toNat : Int) 1 == 1) = c.getLsbD 0 := by
  have h := u32_and_nat c.toNat 1 c.isLt (by omega); rw [show bits .and .u32 (c.toNat : Int) 1 = ((c.toNat &&& 1 : Nat) : Int) from h, Nat.and_one_is_mod, BitVec.getLsbD, Nat.testBit_zero, Bool.eq_iff_iff, beq_iff_eq, decide_eq_true_eq]; omega
theorem poly_xor (c : BitVec 32) : bits .xor .u32 ((c.toNat : Int) / (2 : Int)) 3988292384 = (((c >>> 1) ^^^ polyP).toNat : Int) := by
  have hc := c.isLt; have h := u32_xor_nat (c.toNat / 2) 3988292384 (by omega) (by omega); rw [show bits .xor .u32 ((c.toNat : Int) / (2 : Int)) 3988292384 = ((c.toNat / 2 ^^^ 3988292384 : Nat) : Int) from h, BitVec.toNat_xor, BitVec.toNat_ushiftRight, Nat.shiftRight_eq_div_pow]; rfl
theorem half_bits (c : BitVec 32) : (c.toNat : Int) / (2 : Int) = ((c >>> 1).toNat : Int) := by
  have h : (c >>> 1).toNat = c.toNat / 2 := by rw [BitVec.toNat_ushiftRight, Nat.shiftRight_eq_div_pow]
  rw [h]; omega
theorem byte_xor (c : BitVec 32) (x : Nat) (hx : x < 256) : bits .xor .u32 (c.toNat : Int) ((x : Int) % 4294967296) = ((c ^^^ BitVec.ofNat 32 x).toNat : Int) := by
  have h := u32_xor_nat c.toNat x c.isLt (by omega); rw [show (x : Int) % 4294967296 = (x : Int) by omega, show bits .xor .u32 (c.toNat : Int) (x : Int) = ((c.toNat ^^^ x : Nat) : Int) from h, BitVec.toNat_xor, BitVec.toNat_ofNat, Nat.mod_eq_of_lt (by omega)]
set_option maxRecDepth 100000 in
set_option maxHeartbeats 800000 in
theorem xSum_any (b off n cap : Nat) (g : Nat -> Nat) (w : World) (hn : n <= 9223372036854775807) (hg : ∀ i, g i < 256) (hc : bytesAt w b off n g) :
    Calls Tryz.prog 136 #[.slice (some ⟨b, off, none⟩) n cap] w fun r w' => r = .returned (.int .u32 (crcV g n : Int)) /\ w = w' := by
  have HG := hid hg; have HC := hid hc; clear hg hc; go_enter Tryz.func136, Tryz.ntmps136; go_wp2_with fail
  go_loopw [3, 8] (fun cv iv W => ∃ i : Nat, i <= n /\ iv = .int .i64 (i : Int) /\ cv = .int .u32 ((bytesP g i).toNat : Int) /\ w = W) (fun _ iv _ => n - (intOf iv).toNat)
  case atStart => exact ⟨0, by omega, rfl, rfl, rfl⟩
  case round =>
    obtain ⟨i, hi, rfl, rfl, rfl⟩ := hrel; by_cases hlt : i < n
    · have d1 : decide ((i : Int) < (n : Int)) = true := decide_eq_true (by omega); have c0 : w.cell? ⟨b, off + i, none⟩ = some (.int .u8 (g i : Nat)) := HC.out i hlt; go_wp2_with fail
      go_loopw [3, 16] (fun cv kv W => ∃ k : Nat, k <= 8 /\ kv = .int .i64 (k : Int) /\ cv = .int .u32 ((bitsP k (bytesP g i ^^^ BitVec.ofNat 32 (g i))).toNat : Int) /\ w = W) (fun _ kv _ => 8 - (intOf kv).toNat)
      case atStart =>
        refine ⟨0, by omega, rfl, ?_, rfl⟩; rw [byte_xor _ _ (HG.out i)]; rfl
      case round =>
        obtain ⟨k, hk, rfl, rfl, rfl⟩ := hrel; by_cases hk8 : k < 8
        · have d2 : decide ((k : Int) < 8) = true := decide_eq_true (by omega); obtain ⟨c, hce⟩ : ∃ c, c = bitsP k (bytesP g i ^^^ BitVec.ofNat 32 (g i)) := ⟨_, rfl⟩; rw [<- hce]; have HCE := hid hce; have hcb := c.isLt; have hla := low_and c; clear hce
          cases hb : c.getLsbD 0
          · rw [hb] at hla
            have HN := hid (show bitsP (k + 1) (bytesP g i ^^^ BitVec.ofNat 32 (g i)) = c >>> 1 by
              show bitP (bitsP k _) = _; rw [<- HCE.out]; unfold bitP; rw [hb]
              rfl)
            clear hb; go_wp2_with fail; exact ⟨⟨k + 1, by omega, by go_num, by rw [HN.out, half_bits], trivial⟩, by simp [intOf]; omega⟩
          · rw [hb] at hla
            have HN := hid (show bitsP (k + 1) (bytesP g i ^^^ BitVec.ofNat 32 (g i)) = (c >>> 1) ^^^ polyP by
              show bitP (bitsP k _) = _; rw [<- HCE.out]; unfold bitP; rw [hb]
              rfl)
            clear hb; go_wp2_with fail; exact ⟨⟨k + 1, by omega, by go_num, by rw [HN.out, poly_xor], trivial⟩, by simp [intOf]; omega⟩
        · obtain rfl : k = 8 := by omega
          go_wp2_with fail; exact ⟨⟨i + 1, by omega, by go_num, rfl, trivial⟩, by simp [intOf]; omega⟩
    · obtain rfl : i = n := by omega
      have d1 : decide ((i : Int) < (i : Int)) = false := by simp
      have hcb := (bytesP g i).isLt; go_wp2_with fail; go_ret; exact ⟨congrArg (fun z => Ending.returned (.int .u32 z)) (not_bits (bytesP g i)), rfl⟩
end Go.Proofs.YtcclpdfmmdonpaaGreat
