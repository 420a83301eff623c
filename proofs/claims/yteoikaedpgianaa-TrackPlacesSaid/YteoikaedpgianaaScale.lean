/- The program's scaled and raised: a product's quotient, rounded down and up. -/
import Derived.Test.YteoikaedpgianaaShare
namespace Go.Proofs.Yteoikaedpgianaa
open Go.RowKit Limb

/-- a * b / d, rounded down -/
def dnV (a b d : Int) : Int := a * b / d
theorem dn_neg (a b d : Int) : dnV (-a) b d = -(upV a b d) := by unfold dnV upV; rw [Int.neg_mul, Int.neg_neg]
theorem up_neg (a b d : Int) : upV (-a) b d = -(dnV a b d) := by unfold dnV upV; rw [Int.neg_mul, Int.neg_neg]
theorem dn_bd {k s n : Int} (hk : 0 ≤ k) (hkn : k ≤ n) (hs : 0 ≤ s) (hn : 0 < n) : 0 ≤ dnV k s n ∧ dnV k s n ≤ s := by
  unfold dnV
  refine ⟨Int.ediv_nonneg (Int.mul_nonneg hk hs) (by omega), ?_⟩
  have h1 : k * s ≤ n * s := Int.mul_le_mul_of_nonneg_right hkn hs
  have h2 := Int.ediv_le_ediv hn h1
  rw [Int.mul_ediv_cancel_left _ (by omega)] at h2
  exact h2
theorem up_bd {k s n : Int} (hk : 0 ≤ k) (hkn : k ≤ n) (hs : 0 ≤ s) (hn : 0 < n) : 0 ≤ upV k s n ∧ upV k s n ≤ s := by
  unfold upV
  have h0 : 0 ≤ k * s := Int.mul_nonneg hk hs
  have h1 : k * s ≤ n * s := Int.mul_le_mul_of_nonneg_right hkn hs
  have h2 : -(k * s) / n ≤ 0 := by
    have := Int.ediv_le_ediv hn (show -(k * s) ≤ 0 by omega)
    rw [Int.zero_ediv] at this
    exact this
  have h3 := Int.ediv_le_ediv hn (show n * -s ≤ -(k * s) by rw [Int.mul_neg]; omega)
  rw [Int.mul_ediv_cancel_left _ (by omega)] at h3
  omega
set_option maxRecDepth 100000 in
theorem scaled_pos (k s n : Int) (w : World) (hk : 0 ≤ k) (hkn : k ≤ n) (hs : 0 ≤ s) (hs2 : s ≤ 4611686018427387904) (hn : 0 < n) (hn2 : n ≤ 9223372036854775807) :
    Calls Try.prog 96 #[.int .i64 k, .int .i64 s, .int .i64 n] w fun r w' => r = .returned (.int .i64 (dnV k s n)) ∧ ∃ m, w' = w.drewN m := by
  have hd := dn_bd hk hkn hs hn
  obtain ⟨A, rfl⟩ := Int.eq_ofNat_of_zero_le hk
  obtain ⟨B, rfl⟩ := Int.eq_ofNat_of_zero_le hs
  obtain ⟨C, rfl⟩ := Int.eq_ofNat_of_zero_le (Int.le_of_lt hn)
  have hv : dnV (A : Int) (B : Int) (C : Int) = ((A * B / C : Nat) : Int) := by unfold dnV; rw [← Int.natCast_mul, ← Int.natCast_ediv]
  rw [hv] at hd ⊢
  have HM := hid (fun w => mul64_any A B (by omega) (by omega) w)
  have HD := hid (fun w => muldiv_any A B C w (by omega) (by omega) (by omega))
  have ea := wrapI hk (by omega)
  have eb := wrapI hs (by omega)
  have ec := wrapI (Int.le_of_lt hn) (by omega)
  have hneg : decide ((A : Int) < 0) = false := by simp
  obtain ⟨hq1, hq2⟩ := hd
  have hq3 : ((A * B / C : Nat) : Int) ≤ 4611686018427387904 := by omega
  clear hv hk hkn hs hs2 hn hn2 hq2
  generalize ((A * B / C : Nat) : Int) = q at *
  generalize ((A * B % C : Nat) : Int) = t at *
  generalize ((A * B / 18446744073709551616 : Nat) : Int) = h1 at *
  generalize ((A * B % 18446744073709551616 : Nat) : Int) = l1 at *
  go_enter Try.func96, Try.ntmps96
  go_wp2_with fail
  refine (HM.out _).mono ?_
  rintro r w1 ⟨rfl, rfl⟩
  go_wp2_with fail
  refine (HD.out _).mono ?_
  rintro r w1 ⟨rfl, n, rfl⟩
  go_wp2_with fail
  go_ret
  exact ⟨rfl, _, rfl⟩
set_option maxRecDepth 100000 in
theorem raised_pos (k s n : Int) (w : World) (hk : 0 ≤ k) (hkn : k ≤ n) (hs : 0 ≤ s) (hs2 : s ≤ 4611686018427387904) (hn : 0 < n) (hn2 : n ≤ 9223372036854775807) :
    Calls Try.prog 97 #[.int .i64 k, .int .i64 s, .int .i64 n] w fun r w' => r = .returned (.int .i64 (upV k s n)) ∧ ∃ m, w' = w.drewN m := by
  have hd := up_bd hk hkn hs hn
  have HS := hid (fun w => share_any k s n w (by omega) (by omega) (by omega) (by omega))
  clear hd hkn hs hs2 hn hn2
  go_enter Try.func97, Try.ntmps97
  go_wp2_with fail
  refine (HS.out _).mono ?_
  rintro r w1 ⟨rfl, n, rfl⟩
  go_wp2_with fail
  go_ret
  exact ⟨rfl, _, rfl⟩
set_option maxRecDepth 100000 in
theorem scaled_any (k s n : Int) (w : World) (hk : -n ≤ k ∧ k ≤ n) (hs : 0 ≤ s) (hs2 : s ≤ 4611686018427387904) (hn : 0 < n) (hn2 : n ≤ 9223372036854775807) :
    Calls Try.prog 96 #[.int .i64 k, .int .i64 s, .int .i64 n] w fun r w' => r = .returned (.int .i64 (dnV k s n)) ∧ ∃ m, w' = w.drewN m := by
  by_cases h : 0 ≤ k
  · exact scaled_pos k s n w h hk.2 hs hs2 hn hn2
  · have hd := up_bd (k := -k) (by omega) (by omega) hs hn
    have HS := hid (fun w => raised_pos (-k) s n w (by omega) (by omega) hs hs2 hn hn2)
    have HE := hid (show dnV k s n = -(upV (-k) s n) by rw [up_neg, Int.neg_neg])
    rw [HE.out]
    have hkl : k < 0 := by omega
    have hkb : -9223372036854775807 ≤ k := by omega
    have hd2 : upV (-k) s n ≤ 4611686018427387904 := by omega
    obtain ⟨hd1, _⟩ := hd
    clear h hk hs hs2 hn hn2
    generalize upV (-k) s n = q at *
    go_enter Try.func96, Try.ntmps96
    go_wp2_with fail
    refine (HS.out _).mono ?_
    rintro r w1 ⟨rfl, n, rfl⟩
    go_wp2_with fail
    go_ret
    exact ⟨rfl, _, rfl⟩
set_option maxRecDepth 100000 in
theorem raised_any (k s n : Int) (w : World) (hk : -n ≤ k ∧ k ≤ n) (hs : 0 ≤ s) (hs2 : s ≤ 4611686018427387904) (hn : 0 < n) (hn2 : n ≤ 9223372036854775807) :
    Calls Try.prog 97 #[.int .i64 k, .int .i64 s, .int .i64 n] w fun r w' => r = .returned (.int .i64 (upV k s n)) ∧ ∃ m, w' = w.drewN m := by
  by_cases h : 0 ≤ k
  · exact raised_pos k s n w h hk.2 hs hs2 hn hn2
  · have hd := dn_bd (k := -k) (by omega) (by omega) hs hn
    have HS := hid (fun w => scaled_pos (-k) s n w (by omega) (by omega) hs hs2 hn hn2)
    have HE := hid (show upV k s n = -(dnV (-k) s n) by rw [dn_neg, Int.neg_neg])
    rw [HE.out]
    have hkl : k < 0 := by omega
    have hkb : -9223372036854775807 ≤ k := by omega
    have hd2 : dnV (-k) s n ≤ 4611686018427387904 := by omega
    obtain ⟨hd1, _⟩ := hd
    clear h hk hs hs2 hn hn2
    generalize dnV (-k) s n = q at *
    go_enter Try.func97, Try.ntmps97
    go_wp2_with fail
    refine (HS.out _).mono ?_
    rintro r w1 ⟨rfl, n, rfl⟩
    go_wp2_with fail
    go_ret
    exact ⟨rfl, _, rfl⟩
end Go.Proofs.Yteoikaedpgianaa
