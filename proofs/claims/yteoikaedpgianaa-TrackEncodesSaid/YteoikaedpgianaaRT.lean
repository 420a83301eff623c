/- What the readers of numbers read back from what the writers have written. No program in sight. -/
import Derived.Test.YteoikaedpgianaaDecX
namespace Go.Proofs.Yteoikaedpgianaa
open Go.RowKit

/-- the state of a reader before these bytes -/
def stL (l : List Nat) : St := ⟨fun i => l.getD i 0, l.length, false⟩
theorem rd_back (g : Nat → Nat) (n z : Nat) (hz : z ≤ 4611686018427387903) : ∀ (f q i : Nat), (∀ j, j < (encN q).length → g (i + j) = (encN q).getD j 0) → i + (encN q).length ≤ n → (encN q).length ≤ f →
    val7 g i + 128 ^ i * q = z → (i = 0 ∨ q ≠ 0) → rd g n f i = (((z : Nat) : Int), ((i + (encN q).length : Nat) : Int), 0)
  | 0, q, i, _, _, hf, _, _ => by have := encN_pos q; omega
  | f + 1, q, i, hg, hn, hf, hv, hq => by
    have hp := encN_pos q
    have h0 := hg 0 hp
    rw [Nat.add_zero] at h0
    unfold rd
    rw [if_neg (by omega)]
    by_cases h : 128 ≤ q
    · have he := encN_more h
      rw [he] at h0 hn hf hg ⊢
      rw [show ((q % 128 + 128) :: encN (q / 128)).getD 0 0 = q % 128 + 128 from rfl] at h0
      rw [if_pos (by omega)]
      have hv1 : val7 g (i + 1) = val7 g i + q % 128 * 128 ^ i := by
        show val7 g i + g i % 128 * 128 ^ i = _
        rw [h0, show (q % 128 + 128) % 128 = q % 128 by omega]
      have hr := rd_back g n z hz f (q / 128) (i + 1) (fun j hj => by
          have := hg (j + 1) (by simpa using hj)
          rw [show i + 1 + j = i + (j + 1) by omega]
          simpa using this) (by simp at hn; omega) (by simp at hf; omega) (by
          rw [hv1, Nat.pow_succ, ← hv]
          have : q = 128 * (q / 128) + q % 128 := by omega
          generalize 128 ^ i = P at *
          generalize q / 128 = a at *
          generalize q % 128 = b at *
          subst this
          rw [Nat.mul_add, Nat.mul_comm b P, Nat.mul_assoc P 128 a]
          omega) (Or.inr (by omega))
      rw [hr]
      simp
      omega
    · have he := encN_last h
      rw [he] at h0 hn hf hg ⊢
      rw [show [q].getD 0 0 = q from rfl] at h0
      have hv1 : val7 g (i + 1) = z := by
        show val7 g i + g i % 128 * 128 ^ i = _
        rw [h0, show q % 128 = q by omega, ← hv, Nat.mul_comm]
      rw [if_neg (by omega), if_neg (by rw [h0, hv1]; omega), hv1]
      simp
theorem readV_back (z : Nat) (r : List Nat) (hz : z ≤ 4611686018427387903) : readV (fun i => (encN z ++ r).getD i 0) (encN z ++ r).length = (((z : Nat) : Int), ((encN z).length : Int), 0) := by
  have h := rd_back (fun i => (encN z ++ r).getD i 0) (encN z ++ r).length z hz 9 z 0 (fun j hj => by
    simp only [Nat.zero_add]
    rw [List.getD_eq_getElem?_getD, List.getD_eq_getElem?_getD, List.getElem?_append_left hj]) (by simp) (encN_len 8 z (by omega)) (by simp [val7]) (Or.inl rfl)
  unfold readV
  rw [h]
  simp
theorem shift_back (x r : List Nat) : (fun i => (x ++ r).getD (i + x.length) 0) = fun i => r.getD i 0 := by
  funext i
  rw [List.getD_eq_getElem?_getD, List.getD_eq_getElem?_getD, List.getElem?_append_right (by omega)]
  congr 2
  omega
theorem next_back (z : Int) (r : List Nat) (hz : 0 ≤ z ∧ z ≤ 4611686018427387903) : nextS false (stL (encU z ++ r)) = (z, stL r) := by
  have h := readV_back z.toNat r (by omega)
  have h1 : (readV (stL (encU z ++ r)).g (stL (encU z ++ r)).m) = (((z.toNat : Nat) : Int), ((encN z.toNat).length : Int), 0) := h
  rw [nextS_good (k := (encN z.toNat).length) (by rw [h1]) (by rw [h1]), h1]
  refine Prod.ext (by simp; omega) ?_
  show (⟨fun i => (encU z ++ r).getD (i + (encN z.toNat).length) 0, (encU z ++ r).length - (encN z.toNat).length, false⟩ : St) = ⟨_, _, _⟩
  rw [show (fun i => (encU z ++ r).getD (i + (encN z.toNat).length) 0) = fun i => r.getD i 0 from shift_back _ _]
  congr 1
  simp [encU]
theorem sign_back (z : Int) (k : Int) (hz : -2305843009213693952 ≤ z ∧ z ≤ 2305843009213693951) : signV (((zig z : Nat) : Int), k, 0) = (z, k, 0) := by
  by_cases h : z < 0
  · have hx : ((zig z : Nat) : Int) = -2 * z - 1 := by unfold zig; rw [if_pos h]; omega
    rw [hx]
    show (if (0 : Int) = 0 then (if (-2 * z - 1) % 2 = 1 then (-((-2 * z - 1) / 2) - 1, k, 0) else ((-2 * z - 1) / 2, k, 0)) else (0, 0, 0)) = (z, k, 0)
    rw [if_pos rfl, if_pos (by omega), show -((-2 * z - 1) / 2) - 1 = z by omega]
  · have hx : ((zig z : Nat) : Int) = 2 * z := by unfold zig; rw [if_neg h]; omega
    rw [hx]
    show (if (0 : Int) = 0 then (if (2 * z) % 2 = 1 then (-((2 * z) / 2) - 1, k, 0) else ((2 * z) / 2, k, 0)) else (0, 0, 0)) = (z, k, 0)
    rw [if_pos rfl, if_neg (by omega), show (2 * z) / 2 = z by omega]
theorem nextS_back (z : Int) (r : List Nat) (hz : -2305843009213693952 ≤ z ∧ z ≤ 2305843009213693951) : nextS true (stL (encS z ++ r)) = (z, stL r) := by
  have h := readV_back (zig z) r (by unfold zig; split <;> omega)
  have h1 : (readV (stL (encS z ++ r)).g (stL (encS z ++ r)).m) = (((zig z : Nat) : Int), ((encN (zig z)).length : Int), 0) := h
  rw [nextS_good (k := (encN (zig z)).length) (by rw [h1]) (by rw [h1]), h1]
  refine Prod.ext (by simp [sign_back z _ hz]) ?_
  show (⟨fun i => (encS z ++ r).getD (i + (encN (zig z)).length) 0, (encS z ++ r).length - (encN (zig z)).length, false⟩ : St) = ⟨_, _, _⟩
  rw [show (fun i => (encS z ++ r).getD (i + (encN (zig z)).length) 0) = fun i => r.getD i 0 from shift_back _ _]
  congr 1
  simp [encS]
theorem encN_byte : ∀ (n q : Nat), q ≤ n → ∀ x ∈ encN q, x < 256
  | n, q, hq, x, hx => by
    by_cases h : 128 ≤ q
    · rw [encN_more h] at hx
      rcases List.mem_cons.1 hx with rfl | hx
      · omega
      · match n, hq with
        | 0, hq => omega
        | n + 1, hq => exact encN_byte n (q / 128) (by omega) x hx
    · rw [encN_last h] at hx
      simp at hx
      omega
theorem stOf_cons (h : Nat) (l : List Nat) : stOf (fun i => (h :: l).getD i 0) (h :: l).length = stL l := by
  unfold stOf stL
  congr 1
end Go.Proofs.Yteoikaedpgianaa
