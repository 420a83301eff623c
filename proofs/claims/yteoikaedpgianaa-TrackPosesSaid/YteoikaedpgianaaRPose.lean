/- The reference's pose within a part. -/
import Derived.Test.YteoikaedpgianaaRPoseE
import Derived.Test.YteoikaedpgianaaRPoseB
namespace Go.Proofs.Yteoikaedpgianaa
open Go.RowKit Limb

theorem rTrack_any (ad : Option Addr) (n c : Nat) (A : Nat → Option Addr) (L C : Nat → Nat) (F : Nat → Nat → Nat → Int) (m0 m1 m2 m3 : Int) (w : World) (hn : n ≤ 9223372036854775807) (hL : ∀ p, L p ≤ 9223372036854775807) (ht : trackAny w ad n A L C F) :
    Calls Try.prog 44 #[.agg #[.slice ad n c], .agg #[.int .i64 m0, .int .i64 m1, .int .i64 m2, .int .i64 m3]] w fun e w' => e = .returned (.bool (trackB m0 m1 m2 m3 n L F)) ∧ Below w.heap.size w w' := by
  rcases Nat.eq_zero_or_pos n with rfl | h
  · rw [show trackB m0 m1 m2 m3 0 L F = rulesB m0 m1 m2 m3 by unfold trackB; rw [show allN (partB m0 L F) 0 = true from rfl, Bool.and_true]]
    exact rTrack_none ad c m0 m1 m2 m3 w
  · obtain ⟨b, off, rfl, hb, h3⟩ := ht h
    exact rTrack_at b off n c A L C F m0 m1 m2 m3 w hb hn hL h3
theorem rpose_any (b o L C K : Nat) (F : Nat → Nat → Int) (m0 m1 m2 m3 time : Int) (w : World) (hb : b < w.heap.size) (hr : recs10 w b o L F) (hL : L ≤ 9223372036854775807) (hK : K < L) (hle : time ≤ F K 0) (hlt : ∀ j, j < K → F j 0 < time)
    (hnx : K + 1 < L → time < F (K + 1) 0) (hfix : ∀ j, j ≤ K → fixF (F j) = true) (hm2 : 0 ≤ m2 ∧ m2 ≤ 100000) (hm3 : 0 ≤ m3 ∧ m3 ≤ 10000000) (hgap : F K 0 = time ∨ (0 < K ∧ F K 0 - F (K - 1) 0 ≤ 10000000)) :
    Calls Try.prog 114 #[.slice (some ⟨b, o, none⟩) L C, .agg #[.int .i64 m0, .int .i64 m1, .int .i64 m2, .int .i64 m3], .int .i64 time] w fun r w' => r = .returned (inV F K m2 m3 time) ∧ Below w.heap.size w w' := by
  by_cases hq : F K 0 = time
  · rw [show inV F K m2 m3 time = fixPose (F K) from if_pos hq]
    exact rposeE_any b o L C K F m0 m1 m2 m3 time w hb hr hL hK (fun j hj => by
      rcases Nat.lt_or_ge j K with h | h
      · have := hlt j h; omega
      · obtain rfl : j = K := by omega
        omega) hnx (hfix K (Nat.le_refl _)) hq
  · rw [show inV F K m2 m3 time = betV (F (K - 1)) (F K) m2 m3 time from if_neg hq]
    obtain ⟨h0, hg⟩ : 0 < K ∧ F K 0 - F (K - 1) 0 ≤ 10000000 := by rcases hgap with h | h; exact absurd h hq; exact h
    obtain ⟨q, rfl⟩ : ∃ q, K = q + 1 := ⟨K - 1, by omega⟩
    rw [Nat.add_sub_cancel] at hg ⊢
    exact rposeB_any b o L C q F m0 m1 m2 m3 time w hb hr hL hK (fun j hj => hlt j (by omega)) (by omega) (hfix q (by omega)) (hfix (q + 1) (Nat.le_refl _)) hm2 hm3 hg
end Go.Proofs.Yteoikaedpgianaa
