/- Numbers of bytes: what the readers of the program and of its reference return. -/
import Derived.Test.YteanlcefdoigcaaRows
import Derived.Test.YteanlcefdoigcaaBase
import Derived.Laws.Bits64b
namespace Go.Proofs.Yteanlcefdoigcaa
open Go.RowKit

/-- the number of the first k groups of seven bits -/
def val7 (g : Nat → Nat) : Nat → Nat
  | 0 => 0
  | k + 1 => val7 g k + g k % 128 * 128 ^ k
def tail7 (g : Nat → Nat) : Nat → Nat → Nat
  | _, 0 => 0
  | i, m + 1 => g i % 128 + 128 * tail7 g (i + 1) m
theorem val7_lt (g : Nat → Nat) : ∀ k, val7 g k < 128 ^ k
  | 0 => by simp [val7]
  | k + 1 => by
    have h := val7_lt g k
    have h2 : g k % 128 < 128 := Nat.mod_lt _ (by decide)
    unfold val7
    have h3 : g k % 128 * 128 ^ k ≤ 127 * 128 ^ k := Nat.mul_le_mul_right _ (by omega)
    rw [Nat.pow_succ]; omega
theorem tail7_lt (g : Nat → Nat) : ∀ m i, tail7 g i m < 128 ^ m
  | 0, i => by simp [tail7]
  | m + 1, i => by
    have h := tail7_lt g m (i + 1)
    have h2 : g i % 128 < 128 := Nat.mod_lt _ (by decide)
    unfold tail7
    rw [Nat.pow_succ]; omega
theorem val7_tail (g : Nat → Nat) : ∀ m k, val7 g k + 128 ^ k * tail7 g k m = val7 g (k + m)
  | 0, k => by simp [tail7]
  | m + 1, k => by
    have h := val7_tail g m (k + 1)
    rw [show k + (m + 1) = k + 1 + m by omega, ← h, show tail7 g k (m + 1) = g k % 128 + 128 * tail7 g (k + 1) m from rfl, show val7 g (k + 1) = val7 g k + g k % 128 * 128 ^ k from rfl,
      Nat.pow_succ, Nat.mul_add, Nat.mul_comm (128 ^ k) (g k % 128), Nat.mul_assoc (128 ^ k) 128, Nat.add_assoc]

/-- what a reader of a number returns, from byte i on, for so many more bytes -/
def rd (g : Nat → Nat) (n : Nat) : Nat → Nat → Int × Int × Int
  | 0, _ => (0, 0, 4)
  | f + 1, i => if i = n then (0, 0, 21) else if 128 ≤ g i then rd g n f (i + 1) else
    if (g i = 0 ∧ 0 < i) ∨ 4611686018427387903 < val7 g (i + 1) then (0, 0, 4) else (val7 g (i + 1), (i : Int) + 1, 0)
def readV (g : Nat → Nat) (n : Nat) : Int × Int × Int := rd g n 9 0
def int3 (x : Int × Int × Int) : Value := .tuple #[.int .i64 x.1, .int .i64 x.2.1, .int .i64 x.2.2]
def bytesAt (w : World) (b off n : Nat) (g : Nat → Nat) : Prop := ∀ i, i < n → w.cell? ⟨b, off + i, none⟩ = some (.int .u8 (g i : Nat))

theorem pow7 (k : Nat) : 128 ^ k = 2 ^ (7 * k) := by rw [Nat.pow_mul]
theorem pow9 {k : Nat} (hk : k ≤ 9) : 128 ^ k ≤ 9223372036854775808 := Nat.le_trans (Nat.pow_le_pow_right (by decide) hk) (by decide)
theorem or7 {v x k : Nat} (hv : v < 128 ^ k) (hk : k < 9) : bits .or .u64 (v : Int) (IntKind.u64.wrap ((x : Int) % 128 * 2 ^ (7 * k))) = ((v + x % 128 * 128 ^ k : Nat) : Int) := by
  have hx : x % 128 < 128 := Nat.mod_lt _ (by decide)
  have h1 : x % 128 * 128 ^ k ≤ 127 * 128 ^ k := Nat.mul_le_mul_right _ (by omega)
  have h2 : 128 ^ (k + 1) ≤ 9223372036854775808 := pow9 (by omega)
  rw [Nat.pow_succ] at h2
  have hc : (x : Int) % 128 * 2 ^ (7 * k) = ((x % 128 * 128 ^ k : Nat) : Int) := by rw [pow7]; simp
  rw [hc, IntWalk.u64_in _ (by omega), bits_or_u64_nat _ _ (by omega) (by omega)]
  congr 1
  rw [pow7, Nat.or_comm, Nat.mul_comm, ← Nat.two_pow_add_eq_or_of_lt (by rw [← pow7]; exact hv), Nat.add_comm]


theorem tail7_all (g : Nat → Nat) (m : Nat) : tail7 g 0 m = val7 g m := by
  have h := val7_tail g m 0
  rw [show val7 g 0 = 0 from rfl, Nat.pow_zero, Nat.one_mul, Nat.zero_add, Nat.zero_add] at h
  exact h
set_option maxRecDepth 100000 in
set_option maxHeartbeats 1600000 in
theorem xRead_any (b off n c : Nat) (g : Nat → Nat) (w : World) (hn : n ≤ 9223372036854775807) (hg : ∀ i, g i < 256) (hc : bytesAt w b off n g) :
    Calls Try.prog 111 #[.slice (some ⟨b, off, none⟩) n c] w fun e w' => e = .returned (int3 (readV g n)) ∧ w = w' := by
  have HC := hid hc
  have HG := hid hg
  clear hc hg
  go_enter Try.func111, Try.ntmps111
  go_wp2_with fail
  go_loop [5, 7] (fun a i => ∃ (k : Nat), k ≤ 9 ∧ k ≤ n ∧ i = .int .i64 k ∧ a = .int .u64 (val7 g k : Nat) ∧ rd g n (9 - k) k = readV g n) (fun _ i => 9 - (intOf i).toNat)
  case atStart => exact ⟨0, by omega, by omega, rfl, rfl, rfl⟩
  case round =>
    obtain ⟨k, hk, hkn, rfl, rfl, hr⟩ := hrel
    by_cases hlt : k < 9
    · by_cases he : k = n
      · have HX := hid (show readV g n = (0, 0, 21) by rw [← hr, show 9 - k = (8 - k) + 1 by omega]; unfold rd; rw [if_pos he])
        clear hr
        go_wp2_with fail
        go_ret3
        exact ⟨by rw [HX.out]; rfl, rfl⟩
      · have hc := HC.out k (by omega)
        have hgk := HG.out k
        have HR := hid (show readV g n = (if 128 ≤ g k then rd g n (8 - k) (k + 1) else if (g k = 0 ∧ 0 < k) ∨ 4611686018427387903 < val7 g (k + 1) then (0, 0, 4) else (val7 g (k + 1), (k : Int) + 1, 0)) by rw [← hr, show 9 - k = (8 - k) + 1 by omega]; exact if_neg he)
        have HV := hid (show val7 g (k + 1) = val7 g k + g k % 128 * 128 ^ k from rfl)
        have HVL := hid (val7_lt g k)
        have HVL2 := hid (val7_lt g (k + 1))
        have HVE := hid (fun (q : Nat) (hq : q = k + 1) => (by subst hq; rfl : val7 g q = val7 g k + g k % 128 * 128 ^ k))
        clear hr
        generalize val7 g (k + 1) = v' at *
        generalize val7 g k = v at *
        generalize g k = gk at *
        have HO := hid (or7 (x := gk) HVL.out hlt)
        have hvl2 : v' < 9223372036854775808 := by
          have h3 := pow9 (k := k + 1) (by omega)
          have h4 := HVL2.out
          omega
        by_cases h1 : 128 ≤ gk
        · have HX := hid (HR.out.trans (if_pos h1))
          go_wp2_with fail
          go_round
          case rel => exact ⟨k + 1, by omega, by omega, by go_num, by rw [HO.out, HVE.out _ rfl], by rw [show 9 - (k + 1) = 8 - k by omega]; exact HX.out.symm⟩
          case measure => simp [intOf]; omega
        · have HX := hid (HR.out.trans (if_neg h1))
          have ho : bits .or .u64 (v : Int) (IntKind.u64.wrap ((gk : Int) % 128 * 2 ^ (7 * k))) = (v' : Int) := by rw [HO.out, ← HV.out]
          by_cases h2 : (gk = 0 ∧ 0 < k) ∨ 4611686018427387903 < v'
          · have HX2 := hid (HX.out.trans (if_pos h2))
            clear HX HR
            by_cases h3 : gk = 0 ∧ 0 < k
            · obtain ⟨h3, h4⟩ := h3
              subst h3
              clear h2 h1
              go_wp2_with fail
              go_ret3
              exact ⟨by rw [HX2.out]; rfl, rfl⟩
            · have h4 : 4611686018427387903 < v' := by omega
              clear h2
              by_cases h5 : gk = 0
              · have h6 : k = 0 := by omega
                have h7 : ((gk : Int) == 0) = true := by simp; omega
                have H6 := hid h6
                clear h6
                clear h5
                go_wp2_with fail
                all_goals first | (go_ret3; exact ⟨by rw [HX2.out]; rfl, rfl⟩) | (have hk0 : k = 0 := H6.out; subst hk0; go_ret3; exact ⟨by rw [HX2.out]; rfl, rfl⟩)
              · have h7 : ((gk : Int) == 0) = false := by simp; omega
                clear h5 h3
                go_wp2_with fail
                go_ret3
                exact ⟨by rw [HX2.out]; rfl, rfl⟩
          · have HX2 := hid (HX.out.trans (if_neg h2))
            clear HX HR
            have h4 : ¬ 4611686018427387903 < v' := by omega
            by_cases h5 : gk = 0
            · have h6 : k = 0 := by omega
              have h7 : ((gk : Int) == 0) = true := by simp; omega
              have H6 := hid h6
              clear h6
              clear h5
              go_wp2_with fail
              all_goals first | (go_ret3; exact ⟨by rw [HX2.out]; rfl, rfl⟩) | (have hk0 : k = 0 := H6.out; subst hk0; go_ret3; exact ⟨by rw [HX2.out]; rfl, rfl⟩)
            · have h7 : ((gk : Int) == 0) = false := by simp; omega
              clear h5 h2
              go_wp2_with fail
              go_ret3
              exact ⟨by rw [HX2.out]; rfl, rfl⟩
    · obtain rfl : k = 9 := by omega
      have HX := hid (show readV g n = (0, 0, 4) from hr.symm)
      clear hr
      go_wp2_with fail
      go_ret3
      exact ⟨by rw [HX.out]; rfl, rfl⟩
theorem step7 {g : Nat → Nat} {j m : Nat} (hm : m < 9) : IntKind.u64.wrap (IntKind.u64.wrap (((tail7 g (j + 1) m : Nat) : Int) * 128) + ((g j : Nat) : Int) % 128) = ((tail7 g j (m + 1) : Nat) : Int) := by
  have h1 := tail7_lt g (m + 1) j
  have h2 := pow9 (k := m + 1) (by omega)
  have h3 : tail7 g j (m + 1) = g j % 128 + 128 * tail7 g (j + 1) m := rfl
  rw [IntWalk.u64_in (((tail7 g (j + 1) m : Nat) : Int) * 128) (by omega), IntWalk.u64_in _ (by omega)]
  omega
set_option maxRecDepth 100000 in
set_option maxHeartbeats 1600000 in
theorem rRead_any (b off n c : Nat) (g : Nat → Nat) (w : World) (hn : n ≤ 9223372036854775807) (hg : ∀ i, g i < 256) (hc : bytesAt w b off n g) :
    Calls Try.prog 114 #[.slice (some ⟨b, off, none⟩) n c] w fun e w' => e = .returned (int3 (readV g n)) ∧ w = w' := by
  have HC := hid hc
  have HG := hid hg
  clear hc hg
  go_enter Try.func114, Try.ntmps114
  go_wp2_with fail
  go_loop [5] (fun a => ∃ (k : Nat), k ≤ 9 ∧ k ≤ n ∧ a = .int .i64 k ∧ rd g n (9 - k) k = readV g n) (fun i => 9 - (intOf i).toNat)
  case atStart => exact ⟨0, by omega, by omega, rfl, rfl⟩
  case round =>
    obtain ⟨k, hk, hkn, rfl, hr⟩ := hrel
    by_cases h9 : k = 9
    · subst h9
      have HX := hid (show readV g n = (0, 0, 4) from hr.symm)
      clear hr
      by_cases hn9 : n = 9
      · subst hn9
        go_wp2_with fail
        go_ret3
        exact ⟨by rw [HX.out]; rfl, rfl⟩
      · have hn10 : 9 < n := by omega
        go_wp2_with fail
        go_ret3
        exact ⟨by rw [HX.out]; rfl, rfl⟩
    · have hlt : k < 9 := by omega
      by_cases he : k = n
      · have HX := hid (show readV g n = (0, 0, 21) by rw [← hr, show 9 - k = (8 - k) + 1 by omega]; unfold rd; rw [if_pos he])
        clear hr
        subst he
        go_wp2_with fail
        go_ret3
        exact ⟨by rw [HX.out]; rfl, rfl⟩
      · have hltn : k < n := by omega
        have hc := HC.out k hltn
        have hgk := HG.out k
        have HR := hid (show readV g n = (if 128 ≤ g k then rd g n (8 - k) (k + 1) else if (g k = 0 ∧ 0 < k) ∨ 4611686018427387903 < val7 g (k + 1) then (0, 0, 4) else (val7 g (k + 1), (k : Int) + 1, 0)) by rw [← hr, show 9 - k = (8 - k) + 1 by omega]; exact if_neg he)
        clear hr
        by_cases h1 : 128 ≤ g k
        · have HX := hid (HR.out.trans (if_pos h1))
          generalize g k = gk at *
          go_wp2_with fail
          go_round
          case rel => exact ⟨k + 1, by omega, by omega, by go_num, by rw [show 9 - (k + 1) = 8 - k by omega]; exact HX.out.symm⟩
          case measure => simp [intOf]; omega
        · have HX := hid (HR.out.trans (if_neg h1))
          clear HR
          by_cases h3 : g k = 0 ∧ 0 < k
          · have HX2 := hid (HX.out.trans (if_pos (Or.inl h3)))
            obtain ⟨h3, h4⟩ := h3
            rw [h3] at hc
            have h5 : ¬ k = 0 := by omega
            clear h1 hgk HX h3
            go_wp2_with fail
            go_ret3
            exact ⟨by rw [HX2.out]; rfl, rfl⟩
          · have HX2 : readV g n = (if 4611686018427387903 < val7 g (k + 1) then ((0, 0, 4) : Int × Int × Int) else (((val7 g (k + 1) : Nat) : Int), (k : Int) + 1, 0)) := by
              have h := HX.out
              simpa only [h3, false_or] using h
            have HX3 := hid HX2
            clear HX HX2
            have hvl := val7_lt g (k + 1)
            have hp9 := pow9 (k := k + 1) (by omega)
            have hv9 : val7 g (k + 1) < 9223372036854775808 := by omega
            clear hvl hp9
            have hge : ¬ 128 ≤ g k := h1
            by_cases h0 : k = 0
            · subst h0
              simp only [Nat.add_zero] at hc
              clear h3
              go_wp2_with fail
              go_loop [6, 7] (fun a i => ∃ (j : Nat), j ≤ 0 + 1 ∧ i = .int .i64 ((j : Int) - 1) ∧ a = .int .u64 (tail7 g j (0 + 1 - j) : Nat)) (fun _ i => (intOf i + 1).toNat)
              case atStart => exact ⟨0 + 1, by omega, by go_num, by rw [Nat.sub_self]; rfl⟩
              case round =>
                obtain ⟨j, hj, rfl, rfl⟩ := hrel
                by_cases hj0 : j = 0
                · subst hj0
                  rw [show tail7 g 0 (0 + 1 - 0) = val7 g (0 + 1) from tail7_all g (0 + 1)]
                  have HX3 := HX3
                  generalize val7 g (0 + 1) = v at *
                  by_cases h5 : 4611686018427387903 < v
                  · have HX4 := hid (HX3.out.trans (if_pos h5))
                    go_wp2_with fail
                    go_ret3
                    exact ⟨by rw [HX4.out]; rfl, rfl⟩
                  · have HX4 := hid (HX3.out.trans (if_neg h5))
                    go_wp2_with fail
                    go_ret3
                    exact ⟨by rw [HX4.out]; rfl, rfl⟩
                · obtain ⟨q, rfl⟩ : ∃ q, j = q + 1 := ⟨j - 1, by omega⟩
                  have HST := hid (step7 (g := g) (j := q) (m := 0 + 1 - (q + 1)) (by omega))
                  have HE := hid (show 0 + 1 - (q + 1) + 1 = 0 + 1 - q by omega)
                  have hcq := HC.out q (by omega)
                  have hgq := HG.out q
                  clear hc hgk h1 hge
                  rw [show (((q + 1 : Nat) : Int) - 1) = (q : Int) by omega]
                  generalize tail7 g (q + 1) (0 + 1 - (q + 1)) = tq at *
                  generalize g q = gq at *
                  go_wp2_with fail
                  go_round
                  case rel => exact ⟨q, by omega, by go_num, by rw [HST.out, HE.out]⟩
                  case measure => first | (simp [intOf]; done) | (simp [intOf]; omega)
            · have h6 : ((g k : Nat) : Int) ≠ 0 := by omega
              have h7 : (((g k : Nat) : Int) == 0) = false := by simp; omega
              clear h3
              go_wp2_with fail
              go_loop [6, 7] (fun a i => ∃ (j : Nat), j ≤ k + 1 ∧ i = .int .i64 ((j : Int) - 1) ∧ a = .int .u64 (tail7 g j (k + 1 - j) : Nat)) (fun _ i => (intOf i + 1).toNat)
              case atStart => exact ⟨k + 1, by omega, by go_num, by rw [Nat.sub_self]; rfl⟩
              case round =>
                obtain ⟨j, hj, rfl, rfl⟩ := hrel
                by_cases hj0 : j = 0
                · subst hj0
                  rw [show tail7 g 0 (k + 1 - 0) = val7 g (k + 1) from tail7_all g (k + 1)]
                  have HX3 := HX3
                  generalize val7 g (k + 1) = v at *
                  by_cases h5 : 4611686018427387903 < v
                  · have HX4 := hid (HX3.out.trans (if_pos h5))
                    go_wp2_with fail
                    go_ret3
                    exact ⟨by rw [HX4.out]; rfl, rfl⟩
                  · have HX4 := hid (HX3.out.trans (if_neg h5))
                    go_wp2_with fail
                    go_ret3
                    exact ⟨by rw [HX4.out]; rfl, rfl⟩
                · obtain ⟨q, rfl⟩ : ∃ q, j = q + 1 := ⟨j - 1, by omega⟩
                  have HST := hid (step7 (g := g) (j := q) (m := k + 1 - (q + 1)) (by omega))
                  have HE := hid (show k + 1 - (q + 1) + 1 = k + 1 - q by omega)
                  have hcq := HC.out q (by omega)
                  have hgq := HG.out q
                  clear hc hgk h1 hge
                  rw [show (((q + 1 : Nat) : Int) - 1) = (q : Int) by omega]
                  generalize tail7 g (q + 1) (k + 1 - (q + 1)) = tq at *
                  generalize g q = gq at *
                  go_wp2_with fail
                  go_round
                  case rel => exact ⟨q, by omega, by go_num, by rw [HST.out, HE.out]⟩
                  case measure => first | (simp [intOf]; done) | (simp [intOf]; omega)
end Go.Proofs.Yteanlcefdoigcaa
