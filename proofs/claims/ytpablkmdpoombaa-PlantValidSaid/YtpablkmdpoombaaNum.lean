/- Texts of the seat Yteanlcefdoigcaa, turned to this one by wip/port.py: Num NumS Write Writes Link. -/
import Derived.Test.YtpablkmdpoombaaFund
import Derived.Test.YtpablkmdpoombaaVal
import Derived.Test.YtpablkmdpoombaaPts
import Derived.Test.YtpablkmdpoombaaSrt
import Derived.Laws.Bits64b
import Derived.WalkKit
import Derived.LoopN
import Derived.Laws.AppendOwnNone
import Derived.Deep.OwnRows
import Derived.Laws.CopyOwn
import Derived.Laws.BitsLemmas
/- Num -/
namespace Go.Proofs.Ytpablkmdpoombaa
open Go.RowKit

/-- the number of the first k groups of seven bits -/
def val7 (g : Nat → Nat) : Nat → Nat
  | 0 => 0
  | k + 1 => val7 g k + g k % 128 * 128 ^ k
def tail7 (g : Nat → Nat) : Nat → Nat → Nat
  | _, 0 => 0
  | i, m + 1 => g i % 128 + 128 * tail7 g (i + 1) m
theorem val7_lt (g : Nat → Nat) : ∀ k, val7 g k < 128 ^ k
  | 0 => by simp [val7]
  | k + 1 => by
    have h := val7_lt g k
    have h2 : g k % 128 < 128 := Nat.mod_lt _ (by decide)
    unfold val7
    have h3 : g k % 128 * 128 ^ k ≤ 127 * 128 ^ k := Nat.mul_le_mul_right _ (by omega)
    rw [Nat.pow_succ]; omega
theorem tail7_lt (g : Nat → Nat) : ∀ m i, tail7 g i m < 128 ^ m
  | 0, i => by simp [tail7]
  | m + 1, i => by
    have h := tail7_lt g m (i + 1)
    have h2 : g i % 128 < 128 := Nat.mod_lt _ (by decide)
    unfold tail7
    rw [Nat.pow_succ]; omega
theorem val7_tail (g : Nat → Nat) : ∀ m k, val7 g k + 128 ^ k * tail7 g k m = val7 g (k + m)
  | 0, k => by simp [tail7]
  | m + 1, k => by
    have h := val7_tail g m (k + 1)
    rw [show k + (m + 1) = k + 1 + m by omega, ← h, show tail7 g k (m + 1) = g k % 128 + 128 * tail7 g (k + 1) m from rfl, show val7 g (k + 1) = val7 g k + g k % 128 * 128 ^ k from rfl,
      Nat.pow_succ, Nat.mul_add, Nat.mul_comm (128 ^ k) (g k % 128), Nat.mul_assoc (128 ^ k) 128, Nat.add_assoc]

/-- what a reader of a number returns, from byte i on, for so many more bytes -/
def rd (g : Nat → Nat) (n : Nat) : Nat → Nat → Int × Int × Int
  | 0, _ => (0, 0, 4)
  | f + 1, i => if i = n then (0, 0, 21) else if 128 ≤ g i then rd g n f (i + 1) else
    if (g i = 0 ∧ 0 < i) ∨ 4611686018427387903 < val7 g (i + 1) then (0, 0, 4) else (val7 g (i + 1), (i : Int) + 1, 0)
def readV (g : Nat → Nat) (n : Nat) : Int × Int × Int := rd g n 9 0
def int3 (x : Int × Int × Int) : Value := .tuple #[.int .i64 x.1, .int .i64 x.2.1, .int .i64 x.2.2]
def bytesAt (w : World) (b off n : Nat) (g : Nat → Nat) : Prop := ∀ i, i < n → w.cell? ⟨b, off + i, none⟩ = some (.int .u8 (g i : Nat))

theorem pow7 (k : Nat) : 128 ^ k = 2 ^ (7 * k) := by rw [Nat.pow_mul]
theorem pow9 {k : Nat} (hk : k ≤ 9) : 128 ^ k ≤ 9223372036854775808 := Nat.le_trans (Nat.pow_le_pow_right (by decide) hk) (by decide)
theorem or7 {v x k : Nat} (hv : v < 128 ^ k) (hk : k < 9) : bits .or .u64 (v : Int) (IntKind.u64.wrap ((x : Int) % 128 * 2 ^ (7 * k))) = ((v + x % 128 * 128 ^ k : Nat) : Int) := by
  have hx : x % 128 < 128 := Nat.mod_lt _ (by decide)
  have h1 : x % 128 * 128 ^ k ≤ 127 * 128 ^ k := Nat.mul_le_mul_right _ (by omega)
  have h2 : 128 ^ (k + 1) ≤ 9223372036854775808 := pow9 (by omega)
  rw [Nat.pow_succ] at h2
  have hc : (x : Int) % 128 * 2 ^ (7 * k) = ((x % 128 * 128 ^ k : Nat) : Int) := by rw [pow7]; simp
  rw [hc, IntWalk.u64_in _ (by omega), bits_or_u64_nat _ _ (by omega) (by omega)]
  congr 1
  rw [pow7, Nat.or_comm, Nat.mul_comm, ← Nat.two_pow_add_eq_or_of_lt (by rw [← pow7]; exact hv), Nat.add_comm]


theorem tail7_all (g : Nat → Nat) (m : Nat) : tail7 g 0 m = val7 g m := by
  have h := val7_tail g m 0
  rw [show val7 g 0 = 0 from rfl, Nat.pow_zero, Nat.one_mul, Nat.zero_add, Nat.zero_add] at h
  exact h
set_option maxRecDepth 100000 in
set_option maxHeartbeats 1600000 in
theorem xRead_any (b off n c : Nat) (g : Nat → Nat) (w : World) (hn : n ≤ 9223372036854775807) (hg : ∀ i, g i < 256) (hc : bytesAt w b off n g) :
    Calls Try.prog 80 #[.slice (some ⟨b, off, none⟩) n c] w fun e w' => e = .returned (int3 (readV g n)) ∧ w = w' := by
  have HC := hid hc
  have HG := hid hg
  clear hc hg
  go_enter Try.func80, Try.ntmps80
  go_wp2_with fail
  go_loop [5, 7] (fun a i => ∃ (k : Nat), k ≤ 9 ∧ k ≤ n ∧ i = .int .i64 k ∧ a = .int .u64 (val7 g k : Nat) ∧ rd g n (9 - k) k = readV g n) (fun _ i => 9 - (intOf i).toNat)
  case atStart => exact ⟨0, by omega, by omega, rfl, rfl, rfl⟩
  case round =>
    obtain ⟨k, hk, hkn, rfl, rfl, hr⟩ := hrel
    by_cases hlt : k < 9
    · by_cases he : k = n
      · have HX := hid (show readV g n = (0, 0, 21) by rw [← hr, show 9 - k = (8 - k) + 1 by omega]; unfold rd; rw [if_pos he])
        clear hr
        go_wp2_with fail
        go_ret3
        exact ⟨by rw [HX.out]; rfl, rfl⟩
      · have hc := HC.out k (by omega)
        have hgk := HG.out k
        have HR := hid (show readV g n = (if 128 ≤ g k then rd g n (8 - k) (k + 1) else if (g k = 0 ∧ 0 < k) ∨ 4611686018427387903 < val7 g (k + 1) then (0, 0, 4) else (val7 g (k + 1), (k : Int) + 1, 0)) by rw [← hr, show 9 - k = (8 - k) + 1 by omega]; exact if_neg he)
        have HV := hid (show val7 g (k + 1) = val7 g k + g k % 128 * 128 ^ k from rfl)
        have HVL := hid (val7_lt g k)
        have HVL2 := hid (val7_lt g (k + 1))
        have HVE := hid (fun (q : Nat) (hq : q = k + 1) => (by subst hq; rfl : val7 g q = val7 g k + g k % 128 * 128 ^ k))
        clear hr
        generalize val7 g (k + 1) = v' at *
        generalize val7 g k = v at *
        generalize g k = gk at *
        have HO := hid (or7 (x := gk) HVL.out hlt)
        have hvl2 : v' < 9223372036854775808 := by
          have h3 := pow9 (k := k + 1) (by omega)
          have h4 := HVL2.out
          omega
        by_cases h1 : 128 ≤ gk
        · have HX := hid (HR.out.trans (if_pos h1))
          go_wp2_with fail
          go_round
          case rel => exact ⟨k + 1, by omega, by omega, by go_num, by rw [HO.out, HVE.out _ rfl], by rw [show 9 - (k + 1) = 8 - k by omega]; exact HX.out.symm⟩
          case measure => simp [intOf]; omega
        · have HX := hid (HR.out.trans (if_neg h1))
          have ho : bits .or .u64 (v : Int) (IntKind.u64.wrap ((gk : Int) % 128 * 2 ^ (7 * k))) = (v' : Int) := by rw [HO.out, ← HV.out]
          by_cases h2 : (gk = 0 ∧ 0 < k) ∨ 4611686018427387903 < v'
          · have HX2 := hid (HX.out.trans (if_pos h2))
            clear HX HR
            by_cases h3 : gk = 0 ∧ 0 < k
            · obtain ⟨h3, h4⟩ := h3
              subst h3
              clear h2 h1
              go_wp2_with fail
              go_ret3
              exact ⟨by rw [HX2.out]; rfl, rfl⟩
            · have h4 : 4611686018427387903 < v' := by omega
              clear h2
              by_cases h5 : gk = 0
              · have h6 : k = 0 := by omega
                have h7 : ((gk : Int) == 0) = true := by simp; omega
                have H6 := hid h6
                clear h6
                clear h5
                go_wp2_with fail
                all_goals first | (go_ret3; exact ⟨by rw [HX2.out]; rfl, rfl⟩) | (have hk0 : k = 0 := H6.out; subst hk0; go_ret3; exact ⟨by rw [HX2.out]; rfl, rfl⟩)
              · have h7 : ((gk : Int) == 0) = false := by simp; omega
                clear h5 h3
                go_wp2_with fail
                go_ret3
                exact ⟨by rw [HX2.out]; rfl, rfl⟩
          · have HX2 := hid (HX.out.trans (if_neg h2))
            clear HX HR
            have h4 : ¬ 4611686018427387903 < v' := by omega
            by_cases h5 : gk = 0
            · have h6 : k = 0 := by omega
              have h7 : ((gk : Int) == 0) = true := by simp; omega
              have H6 := hid h6
              clear h6
              clear h5
              go_wp2_with fail
              all_goals first | (go_ret3; exact ⟨by rw [HX2.out]; rfl, rfl⟩) | (have hk0 : k = 0 := H6.out; subst hk0; go_ret3; exact ⟨by rw [HX2.out]; rfl, rfl⟩)
            · have h7 : ((gk : Int) == 0) = false := by simp; omega
              clear h5 h2
              go_wp2_with fail
              go_ret3
              exact ⟨by rw [HX2.out]; rfl, rfl⟩
    · obtain rfl : k = 9 := by omega
      have HX := hid (show readV g n = (0, 0, 4) from hr.symm)
      clear hr
      go_wp2_with fail
      go_ret3
      exact ⟨by rw [HX.out]; rfl, rfl⟩
theorem step7 {g : Nat → Nat} {j m : Nat} (hm : m < 9) : IntKind.u64.wrap (IntKind.u64.wrap (((tail7 g (j + 1) m : Nat) : Int) * 128) + ((g j : Nat) : Int) % 128) = ((tail7 g j (m + 1) : Nat) : Int) := by
  have h1 := tail7_lt g (m + 1) j
  have h2 := pow9 (k := m + 1) (by omega)
  have h3 : tail7 g j (m + 1) = g j % 128 + 128 * tail7 g (j + 1) m := rfl
  rw [IntWalk.u64_in (((tail7 g (j + 1) m : Nat) : Int) * 128) (by omega), IntWalk.u64_in _ (by omega)]
  omega
set_option maxRecDepth 100000 in
set_option maxHeartbeats 1600000 in
theorem rRead_any (b off n c : Nat) (g : Nat → Nat) (w : World) (hn : n ≤ 9223372036854775807) (hg : ∀ i, g i < 256) (hc : bytesAt w b off n g) :
    Calls Try.prog 82 #[.slice (some ⟨b, off, none⟩) n c] w fun e w' => e = .returned (int3 (readV g n)) ∧ w = w' := by
  have HC := hid hc
  have HG := hid hg
  clear hc hg
  go_enter Try.func82, Try.ntmps82
  go_wp2_with fail
  go_loop [5] (fun a => ∃ (k : Nat), k ≤ 9 ∧ k ≤ n ∧ a = .int .i64 k ∧ rd g n (9 - k) k = readV g n) (fun i => 9 - (intOf i).toNat)
  case atStart => exact ⟨0, by omega, by omega, rfl, rfl⟩
  case round =>
    obtain ⟨k, hk, hkn, rfl, hr⟩ := hrel
    by_cases h9 : k = 9
    · subst h9
      have HX := hid (show readV g n = (0, 0, 4) from hr.symm)
      clear hr
      by_cases hn9 : n = 9
      · subst hn9
        go_wp2_with fail
        go_ret3
        exact ⟨by rw [HX.out]; rfl, rfl⟩
      · have hn10 : 9 < n := by omega
        go_wp2_with fail
        go_ret3
        exact ⟨by rw [HX.out]; rfl, rfl⟩
    · have hlt : k < 9 := by omega
      by_cases he : k = n
      · have HX := hid (show readV g n = (0, 0, 21) by rw [← hr, show 9 - k = (8 - k) + 1 by omega]; unfold rd; rw [if_pos he])
        clear hr
        subst he
        go_wp2_with fail
        go_ret3
        exact ⟨by rw [HX.out]; rfl, rfl⟩
      · have hltn : k < n := by omega
        have hc := HC.out k hltn
        have hgk := HG.out k
        have HR := hid (show readV g n = (if 128 ≤ g k then rd g n (8 - k) (k + 1) else if (g k = 0 ∧ 0 < k) ∨ 4611686018427387903 < val7 g (k + 1) then (0, 0, 4) else (val7 g (k + 1), (k : Int) + 1, 0)) by rw [← hr, show 9 - k = (8 - k) + 1 by omega]; exact if_neg he)
        clear hr
        by_cases h1 : 128 ≤ g k
        · have HX := hid (HR.out.trans (if_pos h1))
          generalize g k = gk at *
          go_wp2_with fail
          go_round
          case rel => exact ⟨k + 1, by omega, by omega, by go_num, by rw [show 9 - (k + 1) = 8 - k by omega]; exact HX.out.symm⟩
          case measure => simp [intOf]; omega
        · have HX := hid (HR.out.trans (if_neg h1))
          clear HR
          by_cases h3 : g k = 0 ∧ 0 < k
          · have HX2 := hid (HX.out.trans (if_pos (Or.inl h3)))
            obtain ⟨h3, h4⟩ := h3
            rw [h3] at hc
            have h5 : ¬ k = 0 := by omega
            clear h1 hgk HX h3
            go_wp2_with fail
            go_ret3
            exact ⟨by rw [HX2.out]; rfl, rfl⟩
          · have HX2 : readV g n = (if 4611686018427387903 < val7 g (k + 1) then ((0, 0, 4) : Int × Int × Int) else (((val7 g (k + 1) : Nat) : Int), (k : Int) + 1, 0)) := by
              have h := HX.out
              simpa only [h3, false_or] using h
            have HX3 := hid HX2
            clear HX HX2
            have hvl := val7_lt g (k + 1)
            have hp9 := pow9 (k := k + 1) (by omega)
            have hv9 : val7 g (k + 1) < 9223372036854775808 := by omega
            clear hvl hp9
            have hge : ¬ 128 ≤ g k := h1
            by_cases h0 : k = 0
            · subst h0
              simp only [Nat.add_zero] at hc
              clear h3
              go_wp2_with fail
              go_loop [6, 7] (fun a i => ∃ (j : Nat), j ≤ 0 + 1 ∧ i = .int .i64 ((j : Int) - 1) ∧ a = .int .u64 (tail7 g j (0 + 1 - j) : Nat)) (fun _ i => (intOf i + 1).toNat)
              case atStart => exact ⟨0 + 1, by omega, by go_num, by rw [Nat.sub_self]; rfl⟩
              case round =>
                obtain ⟨j, hj, rfl, rfl⟩ := hrel
                by_cases hj0 : j = 0
                · subst hj0
                  rw [show tail7 g 0 (0 + 1 - 0) = val7 g (0 + 1) from tail7_all g (0 + 1)]
                  have HX3 := HX3
                  generalize val7 g (0 + 1) = v at *
                  by_cases h5 : 4611686018427387903 < v
                  · have HX4 := hid (HX3.out.trans (if_pos h5))
                    go_wp2_with fail
                    go_ret3
                    exact ⟨by rw [HX4.out]; rfl, rfl⟩
                  · have HX4 := hid (HX3.out.trans (if_neg h5))
                    go_wp2_with fail
                    go_ret3
                    exact ⟨by rw [HX4.out]; rfl, rfl⟩
                · obtain ⟨q, rfl⟩ : ∃ q, j = q + 1 := ⟨j - 1, by omega⟩
                  have HST := hid (step7 (g := g) (j := q) (m := 0 + 1 - (q + 1)) (by omega))
                  have HE := hid (show 0 + 1 - (q + 1) + 1 = 0 + 1 - q by omega)
                  have hcq := HC.out q (by omega)
                  have hgq := HG.out q
                  clear hc hgk h1 hge
                  rw [show (((q + 1 : Nat) : Int) - 1) = (q : Int) by omega]
                  generalize tail7 g (q + 1) (0 + 1 - (q + 1)) = tq at *
                  generalize g q = gq at *
                  go_wp2_with fail
                  go_round
                  case rel => exact ⟨q, by omega, by go_num, by rw [HST.out, HE.out]⟩
                  case measure => first | (simp [intOf]; done) | (simp [intOf]; omega)
            · have h6 : ((g k : Nat) : Int) ≠ 0 := by omega
              have h7 : (((g k : Nat) : Int) == 0) = false := by simp; omega
              clear h3
              go_wp2_with fail
              go_loop [6, 7] (fun a i => ∃ (j : Nat), j ≤ k + 1 ∧ i = .int .i64 ((j : Int) - 1) ∧ a = .int .u64 (tail7 g j (k + 1 - j) : Nat)) (fun _ i => (intOf i + 1).toNat)
              case atStart => exact ⟨k + 1, by omega, by go_num, by rw [Nat.sub_self]; rfl⟩
              case round =>
                obtain ⟨j, hj, rfl, rfl⟩ := hrel
                by_cases hj0 : j = 0
                · subst hj0
                  rw [show tail7 g 0 (k + 1 - 0) = val7 g (k + 1) from tail7_all g (k + 1)]
                  have HX3 := HX3
                  generalize val7 g (k + 1) = v at *
                  by_cases h5 : 4611686018427387903 < v
                  · have HX4 := hid (HX3.out.trans (if_pos h5))
                    go_wp2_with fail
                    go_ret3
                    exact ⟨by rw [HX4.out]; rfl, rfl⟩
                  · have HX4 := hid (HX3.out.trans (if_neg h5))
                    go_wp2_with fail
                    go_ret3
                    exact ⟨by rw [HX4.out]; rfl, rfl⟩
                · obtain ⟨q, rfl⟩ : ∃ q, j = q + 1 := ⟨j - 1, by omega⟩
                  have HST := hid (step7 (g := g) (j := q) (m := k + 1 - (q + 1)) (by omega))
                  have HE := hid (show k + 1 - (q + 1) + 1 = k + 1 - q by omega)
                  have hcq := HC.out q (by omega)
                  have hgq := HG.out q
                  clear hc hgk h1 hge
                  rw [show (((q + 1 : Nat) : Int) - 1) = (q : Int) by omega]
                  generalize tail7 g (q + 1) (k + 1 - (q + 1)) = tq at *
                  generalize g q = gq at *
                  go_wp2_with fail
                  go_round
                  case rel => exact ⟨q, by omega, by go_num, by rw [HST.out, HE.out]⟩
                  case measure => first | (simp [intOf]; done) | (simp [intOf]; omega)
end Go.Proofs.Ytpablkmdpoombaa

/- NumS -/
namespace Go.Proofs.Ytpablkmdpoombaa
open Go.RowKit

/-- what a reader of a signed number returns -/
def signV (x : Int × Int × Int) : Int × Int × Int := if x.2.2 = 0 then (if x.1 % 2 = 1 then (-(x.1 / 2) - 1, x.2.1, 0) else (x.1 / 2, x.2.1, 0)) else (0, 0, x.2.2)
theorem int3_eq (x : Int × Int × Int) : int3 x = .tuple #[.int .i64 x.1, .int .i64 x.2.1, .int .i64 x.2.2] := rfl
theorem rd_bd (g : Nat → Nat) (n : Nat) : ∀ f i, (0 ≤ (rd g n f i).1 ∧ (rd g n f i).1 ≤ 4611686018427387903) ∧ ((rd g n f i).2.2 = 0 → i ≤ n → (i : Int) + 1 ≤ (rd g n f i).2.1 ∧ (rd g n f i).2.1 ≤ n)
  | 0, i => by simp [rd]
  | f + 1, i => by
    unfold rd
    split
    · simp
    · split
      · have h := rd_bd g n f (i + 1)
        refine ⟨h.1, fun h1 h2 => ?_⟩
        have h3 := h.2 h1 (by omega)
        omega
      · split
        · simp
        · simp; omega
theorem readV_bd (g : Nat → Nat) (n : Nat) : 0 ≤ (readV g n).1 ∧ (readV g n).1 ≤ 4611686018427387903 := (rd_bd g n 9 0).1
theorem readV_size (g : Nat → Nat) (n : Nat) (h : (readV g n).2.2 = 0) : 1 ≤ (readV g n).2.1 ∧ (readV g n).2.1 ≤ n := (rd_bd g n 9 0).2 h (by omega)
theorem signV_size (x : Int × Int × Int) : (signV x).2.2 = x.2.2 ∧ (x.2.2 = 0 → (signV x).2.1 = x.2.1) := by
  obtain ⟨v, s, e⟩ := x
  unfold signV
  split
  · rename_i h; simp only at h; subst h; split <;> simp
  · rename_i h; exact ⟨rfl, fun h2 => absurd h2 h⟩

theorem xSigned_any (b off n c : Nat) (g : Nat → Nat) (w : World) (hn : n ≤ 9223372036854775807) (hg : ∀ i, g i < 256) (hc : bytesAt w b off n g) :
    Calls Try.prog 120 #[.slice (some ⟨b, off, none⟩) n c] w fun e w' => e = .returned (int3 (signV (readV g n))) ∧ w = w' := by
  have H := hid (xRead_any b off n c g w hn hg hc)
  have hb := readV_bd g n
  have hs := int3_eq (readV g n)
  generalize readV g n = x at *
  obtain ⟨v, s, e⟩ := x
  rw [hs] at H
  clear hs hc hg
  simp only at hb H
  by_cases he : e = 0
  · subst he
    by_cases ho : v % 2 = 1
    · have HX := hid (show signV (v, s, 0) = (-(v / 2) - 1, s, 0) by simp [signV, ho])
      go_enter Try.func120, Try.ntmps120
      go_wp2_with fail
      refine H.out.mono ?_
      rintro r w1 ⟨rfl, rfl⟩
      go_wp2_with fail
      go_ret3
      exact ⟨by rw [HX.out]; rfl, rfl⟩
    · have HX := hid (show signV (v, s, 0) = (v / 2, s, 0) by simp [signV, ho])
      have hev : v % 2 = 0 := by omega
      go_enter Try.func120, Try.ntmps120
      go_wp2_with fail
      refine H.out.mono ?_
      rintro r w1 ⟨rfl, rfl⟩
      go_wp2_with fail
      go_ret3
      exact ⟨by rw [HX.out]; rfl, rfl⟩
  · have HX := hid (show signV (v, s, e) = (0, 0, e) from if_neg he)
    go_enter Try.func120, Try.ntmps120
    go_wp2_with fail
    refine H.out.mono ?_
    rintro r w1 ⟨rfl, rfl⟩
    go_wp2_with fail
    go_ret3
    exact ⟨by rw [HX.out]; rfl, rfl⟩

theorem rSigned_any (b off n c : Nat) (g : Nat → Nat) (w : World) (hn : n ≤ 9223372036854775807) (hg : ∀ i, g i < 256) (hc : bytesAt w b off n g) :
    Calls Try.prog 83 #[.slice (some ⟨b, off, none⟩) n c] w fun e w' => e = .returned (int3 (signV (readV g n))) ∧ w = w' := by
  have H := hid (rRead_any b off n c g w hn hg hc)
  have hb := readV_bd g n
  have hs := int3_eq (readV g n)
  generalize readV g n = x at *
  obtain ⟨v, s, e⟩ := x
  rw [hs] at H
  clear hs hc hg
  simp only at hb H
  by_cases he : e = 0
  · subst he
    by_cases ho : v % 2 = 1
    · have HX := hid (show signV (v, s, 0) = (-((v + 1) / 2), s, 0) by simp [signV, ho]; omega)
      go_enter Try.func83, Try.ntmps83
      go_wp2_with fail
      refine H.out.mono ?_
      rintro r w1 ⟨rfl, rfl⟩
      go_wp2_with fail
      go_ret3
      exact ⟨by rw [HX.out]; rfl, rfl⟩
    · have HX := hid (show signV (v, s, 0) = (v / 2, s, 0) by simp [signV, ho])
      have hev : v % 2 = 0 := by omega
      go_enter Try.func83, Try.ntmps83
      go_wp2_with fail
      refine H.out.mono ?_
      rintro r w1 ⟨rfl, rfl⟩
      go_wp2_with fail
      go_ret3
      exact ⟨by rw [HX.out]; rfl, rfl⟩
  · have HX := hid (show signV (v, s, e) = (0, 0, e) from if_neg he)
    go_enter Try.func83, Try.ntmps83
    go_wp2_with fail
    refine H.out.mono ?_
    rintro r w1 ⟨rfl, rfl⟩
    go_wp2_with fail
    go_ret3
    exact ⟨by rw [HX.out]; rfl, rfl⟩
end Go.Proofs.Ytpablkmdpoombaa

/- Write -/
namespace Go.Proofs.Ytpablkmdpoombaa
open Go.RowKit

def u8s (xs : List Nat) : List Value := xs.map fun (x : Nat) => Value.int .u8 (x : Int)
theorem u8s_one (xs : List Nat) : ∀ u ∈ u8s xs, u.oneCell' = true := by
  intro u hu
  simp [u8s] at hu
  obtain ⟨x, _, rfl⟩ := hu
  rfl
theorem info5 : (Try.prog.info? 5).map (fun i => (i.zero, i.size, i.bytes)) = some (some (.int .u8 0), 1, 1) := by kernel_rfl

theorem own_base {w : World} {B B' : Nat} {e : TypeId} {s n : Nat} {v : Value} {xs : List Value} (h : w.ownsRow B e s v n xs) (hB : B' ≤ B) : w.ownsRow B' e s v n xs := by
  obtain ⟨h1, h2⟩ := h
  refine ⟨h1, ?_⟩
  rcases h2 with h2 | ⟨g, cap, cur, hv, hg, h3⟩
  · exact Or.inl h2
  · exact Or.inr ⟨g, cap, cur, hv, by omega, h3⟩
theorem u8s_append (xs ys : List Nat) : u8s (xs ++ ys) = u8s xs ++ u8s ys := by simp [u8s]

theorem joined_any (lb g n cap : Nat) (xs : List Nat) (w : World) (hown : w.ownsRow 0 5 1 (.slice (some ⟨g, 0, none⟩) n cap) n (u8s xs)) (hn : n ≤ 1000000) (hn0 : 0 < n)
    (hl : w.cell? ⟨lb, 0, none⟩ = some (.slice (some ⟨g, 0, none⟩) n cap)) :
    Calls Try.prog 119 #[.slice (some ⟨lb, 0, none⟩) 1 1] w fun e w' => (∃ v, e = .returned v ∧ w'.ownsRow w.heap.size 5 1 v n (u8s xs)) ∧ Below w.heap.size w w' := by
  obtain ⟨i0, hi, hz0, hz1, hz2⟩ := info_parts info5
  have HO := hid hown
  have HI := hid hi
  have HZ0 := hid hz0
  have HZ1 := hid hz1
  have HZ2 := hid hz2
  have hlen := hown.1
  have HC := hid (hown.cells (g := g) rfl)
  clear hown hi hz0 hz1 hz2
  go_enter Try.func119, Try.ntmps119
  go_wp2_with fail
  refine wp_loop_rounds 2 ?_
  rw [rounds_succ]
  go_wp2_with (first | (at_builtin; refine wpList_append_own _ rfl (.tmp 10) (.tmp 14) 24 rfl w.heap.size 5 i0 (.int .u8 0) 1 1 Try.underlying24 HI.out HZ0.out HZ1.out HZ2.out rfl (by decide) _ 0 [] rfl (World.ownsRow_nil _ _ _ _) ⟨g, 0, none⟩ n cap (u8s xs) rfl hlen HC.out (u8s_one xs) (by unfold maxLen; omega) (by omega) (Nat.le_refl _) ?_; intro v' w1 hown1 hgrow1 hnil1))
  rw [rounds_succ]
  go_wp2_with fail
  go_ret
  simp only [Nat.zero_add, List.nil_append] at hown1
  exact ⟨⟨_, rfl, hown1⟩, (Below.refl _ _).grown hgrow1 (Nat.le_refl _) (fun k hk => by cases (show (none : Option Nat) = some k from hk))⟩

theorem joined_nil (lb : Nat) (w : World) (hl : w.cell? ⟨lb, 0, none⟩ = some (.slice none 0 0)) :
    Calls Try.prog 119 #[.slice (some ⟨lb, 0, none⟩) 1 1] w fun e w' => e = .returned (.slice none 0 0) ∧ w = w' := by
  obtain ⟨i0, hi, hz0, hz1, hz2⟩ := info_parts info5
  have HI := hid hi
  clear hi hz0 hz1 hz2
  go_enter Try.func119, Try.ntmps119
  go_wp2_with fail
  refine wp_loop_rounds 2 ?_
  rw [rounds_succ]
  go_wp2_with (first | (at_builtin; refine wpList_append_own_none rfl (.tmp 10) (.tmp 14) 24 rfl 0 5 i0 1 Try.underlying24 HI.out (.slice none 0 0) 0 [] rfl (World.ownsRow_nil _ _ _ _) rfl ?_))
  rw [rounds_succ]
  go_wp2_with fail
  go_ret
  exact ⟨rfl, rfl⟩

theorem byte_at {w : World} {x : Nat} {z : Int} (hz : z = x) : ∀ (j : Nat) (u : Value), (u8s [x])[j]? = some u → (w.alloc (.cells #[.int .u8 z] 5)).cell? ((⟨w.heap.size, 0, none⟩ : Addr).add j) = some u := by
  subst hz
  intro j u hj
  match j, hj with
  | 0, hj =>
    simp [u8s] at hj
    subst hj
    simp [Addr.add]
theorem grown_below {B : Nat} {w wr w' : World} {v : Value} {o : Obj} {e : TypeId} {s n : Nat} {xs : List Value} (hB : Below B w wr) (ho : wr.ownsRow B e s v n xs) (hg : (wr.alloc o).grownBy w' v.ownBlock) (hs : B ≤ wr.heap.size) : Below B w w' :=
  (hB.alloc hs o).grown hg (by simp; omega) (fun k hk => (ho.lt k hk).1)

/-- the bytes of a number: seven bits each, the least first -/
def encN (n : Nat) : List Nat := if h : 128 ≤ n then (n % 128 + 128) :: encN (n / 128) else [n]
decreasing_by omega
theorem encN_more {n : Nat} (h : 128 ≤ n) : encN n = (n % 128 + 128) :: encN (n / 128) := by rw [encN]; exact dif_pos h
theorem encN_last {n : Nat} (h : ¬ 128 ≤ n) : encN n = [n] := by rw [encN]; exact dif_neg h
theorem encN_len : ∀ (k n : Nat), n < 128 ^ (k + 1) → (encN n).length ≤ k + 1
  | 0, n, h => by rw [encN_last (by omega)]; simp
  | k + 1, n, h => by
    by_cases h1 : 128 ≤ n
    · rw [encN_more h1]
      have := encN_len k (n / 128) (by rw [Nat.pow_succ] at h; omega)
      simp; omega
    · rw [encN_last h1]; simp
theorem encN_pos (n : Nat) : 0 < (encN n).length := by
  rw [encN]; split <;> simp

set_option maxRecDepth 100000 in
theorem rNumber_any (g n cap z : Nat) (xs : List Nat) (w : World) (hown : w.ownsRow 0 5 1 (.slice (some ⟨g, 0, none⟩) n cap) n (u8s xs)) (hn : n ≤ 1000000) (hn0 : 0 < n) (hz : z ≤ 4611686018427387903) :
    Calls Try.prog 75 #[.slice (some ⟨g, 0, none⟩) n cap, .int .i64 z] w fun e w' => (∃ v, e = .returned (.tuple #[v, .int .i64 0]) ∧ w'.ownsRow w.heap.size 5 1 v (xs ++ encN z).length (u8s (xs ++ encN z))) ∧ Below w.heap.size w w' := by
  obtain ⟨i0, hi, hz0, hz1, hz2⟩ := info_parts info5
  have HO := hid hown
  have HI := hid hi
  have HZ0 := hid hz0
  have HZ1 := hid hz1
  have HZ2 := hid hz2
  have hlen : xs.length = n := by have := hown.1; simpa [u8s] using this
  have hel := encN_len 8 z (by omega)
  clear hown hi hz0 hz1 hz2
  go_enter Try.func75, Try.ntmps75
  go_wp2_with fail
  refine (joined_any _ g n cap xs _ (HO.out.alloc _) hn hn0 ?_).mono ?_
  · focus first | (simp; done) | (simp [go_sem]; done)
  rintro r w1 ⟨⟨v, rfl, hown1⟩, hb⟩
  have HB := hid ((by refine Below.trans ?_ (hb.mono ?_); (focus ((repeat' (first | (with_reducible exact Below.refl _ _) | (with_reducible assumption) | (with_reducible refine Below.alloc ?_ ?_ _) | (with_reducible refine Below.drew ?_) | (with_reducible refine below_drewN ?_ _) | (with_reducible refine Below.setCell ?_ ?_ _) | (with_reducible refine below_setRow ?_ ?_ _) | go_size)); done)); (focus (first | (simp; done) | (simp; omega)))) : Below w.heap.size w w1)
  have HO1 := hid hown1
  have hs1 := hb.size
  simp at hs1
  clear hb hown1
  go_wp2_with fail
  go_loopw [1, 6] (fun q v wr => ∃ (k : Nat) (ys : List Nat), k ≤ z ∧ q = .int .i64 k ∧ xs ++ encN z = ys ++ encN k ∧ wr.ownsRow w.heap.size 5 1 v ys.length (u8s ys) ∧ Below w.heap.size w wr) (fun q _ _ => (intOf q).toNat)
  case atStart => exact ⟨z, xs, Nat.le_refl _, rfl, rfl, by rw [hlen]; exact own_base HO1.out (by simp), HB.out⟩
  case round =>
    obtain ⟨k, ys, hk, rfl, he, hown2, hB⟩ := hrel
    have hz2 := hB.size
    have HB2 := hid hB
    have HO2 := hid hown2
    have hle : ys.length ≤ 1000100 := by
      have h1 := congrArg List.length he
      simp at h1
      omega
    by_cases h1 : 128 ≤ k
    · have HE := hid (show xs ++ encN z = (ys ++ [k % 128 + 128]) ++ encN (k / 128) by rw [he, encN_more h1]; simp)
      clear he hB hown2
      go_wp2_with (at_builtin; refine wpList_append_own _ rfl (.tmp 18) (.tmp 23) 24 rfl w.heap.size 5 i0 (.int .u8 0) 1 1 Try.underlying24 HI.out HZ0.out HZ1.out HZ2.out rfl (by decide) _ ys.length (u8s ys) rfl (HO2.out.alloc _) ⟨wr.heap.size, 0, none⟩ 1 1 (u8s [k % 128 + 128]) rfl rfl (byte_at (by omega)) (u8s_one _) (by unfold maxLen; omega) (by omega) (by simp; omega) ?_; intro v' w2 hown3 hgrow3 hnil3)
      have hb3 := grown_below HB2.out HO2.out hgrow3 hz2
      rw [← u8s_append, show ys.length + 1 = (ys ++ [k % 128 + 128]).length by simp] at hown3
      have HB3 := hid hb3
      have HO3 := hid hown3
      clear hb3 hown3 hgrow3 hnil3
      go_wp2_with fail
      go_roundw
      case rel => exact ⟨k / 128, ys ++ [k % 128 + 128], by omega, by go_num, HE.out, HO3.out, HB3.out⟩
      case measure => simp [intOf]; omega
    · have HE := hid (show xs ++ encN z = ys ++ [k] by rw [he, encN_last h1])
      clear he hB hown2
      go_wp2_with (at_builtin; refine wpList_append_own _ rfl (.tmp 27) (.tmp 30) 24 rfl w.heap.size 5 i0 (.int .u8 0) 1 1 Try.underlying24 HI.out HZ0.out HZ1.out HZ2.out rfl (by decide) _ ys.length (u8s ys) rfl (HO2.out.alloc _) ⟨wr.heap.size, 0, none⟩ 1 1 (u8s [k]) rfl rfl (byte_at (by first | rfl | omega)) (u8s_one _) (by unfold maxLen; omega) (by omega) (by simp; omega) ?_; intro v' w2 hown3 hgrow3 hnil3)
      have hb3 := grown_below HB2.out HO2.out hgrow3 hz2
      rw [← u8s_append, show ys.length + 1 = (ys ++ [k]).length by simp] at hown3
      have HB3 := hid hb3
      have HO3 := hid hown3
      clear hb3 hown3 hgrow3 hnil3
      go_wp2_with fail
      go_ret2
      rw [HE.out]
      exact ⟨⟨_, rfl, HO3.out⟩, HB3.out⟩
set_option maxRecDepth 100000 in
theorem rNumber_nil (z : Nat) (w : World) (hz : z ≤ 4611686018427387903) :
    Calls Try.prog 75 #[.slice none 0 0, .int .i64 z] w fun e w' => (∃ v, e = .returned (.tuple #[v, .int .i64 0]) ∧ w'.ownsRow w.heap.size 5 1 v (encN z).length (u8s (encN z))) ∧ Below w.heap.size w w' := by
  obtain ⟨i0, hi, hz0, hz1, hz2⟩ := info_parts info5
  have HI := hid hi
  have HZ0 := hid hz0
  have HZ1 := hid hz1
  have HZ2 := hid hz2
  have hel := encN_len 8 z (by omega)
  clear hi hz0 hz1 hz2
  go_enter Try.func75, Try.ntmps75
  go_wp2_with fail
  refine (joined_nil _ _ ?_).mono ?_
  · focus first | (simp; done) | (simp [go_sem]; done)
  rintro r w1 ⟨rfl, hw⟩
  have HB := hid (show Below w.heap.size w w1 by rw [← hw]; repeat' (first | (with_reducible exact Below.refl _ _) | (with_reducible refine Below.alloc ?_ ?_ _) | (with_reducible refine Below.drew ?_) | (with_reducible refine below_drewN ?_ _) | go_size))
  clear hw
  go_wp2_with fail
  go_loopw [1, 6] (fun q v wr => ∃ (k : Nat) (ys : List Nat), k ≤ z ∧ q = .int .i64 k ∧ [] ++ encN z = ys ++ encN k ∧ wr.ownsRow w.heap.size 5 1 v ys.length (u8s ys) ∧ Below w.heap.size w wr) (fun q _ _ => (intOf q).toNat)
  case atStart => exact ⟨z, [], Nat.le_refl _, rfl, rfl, World.ownsRow_nil _ _ _ _, HB.out⟩
  case round =>
    obtain ⟨k, ys, hk, rfl, he, hown2, hB⟩ := hrel
    have hz2 := hB.size
    have HB2 := hid hB
    have HO2 := hid hown2
    have hle : ys.length ≤ 1000100 := by
      have h1 := congrArg List.length he
      simp at h1
      omega
    by_cases h1 : 128 ≤ k
    · have HE := hid (show [] ++ encN z = (ys ++ [k % 128 + 128]) ++ encN (k / 128) by rw [he, encN_more h1]; simp)
      clear he hB hown2
      go_wp2_with (at_builtin; refine wpList_append_own _ rfl (.tmp 18) (.tmp 23) 24 rfl w.heap.size 5 i0 (.int .u8 0) 1 1 Try.underlying24 HI.out HZ0.out HZ1.out HZ2.out rfl (by decide) _ ys.length (u8s ys) rfl (HO2.out.alloc _) ⟨wr.heap.size, 0, none⟩ 1 1 (u8s [k % 128 + 128]) rfl rfl (byte_at (by omega)) (u8s_one _) (by unfold maxLen; omega) (by omega) (by simp; omega) ?_; intro v' w2 hown3 hgrow3 hnil3)
      have hb3 := grown_below HB2.out HO2.out hgrow3 hz2
      rw [← u8s_append, show ys.length + 1 = (ys ++ [k % 128 + 128]).length by simp] at hown3
      have HB3 := hid hb3
      have HO3 := hid hown3
      clear hb3 hown3 hgrow3 hnil3
      go_wp2_with fail
      go_roundw
      case rel => exact ⟨k / 128, ys ++ [k % 128 + 128], by omega, by go_num, HE.out, HO3.out, HB3.out⟩
      case measure => simp [intOf]; omega
    · have HE := hid (show [] ++ encN z = ys ++ [k] by rw [he, encN_last h1])
      clear he hB hown2
      go_wp2_with (at_builtin; refine wpList_append_own _ rfl (.tmp 27) (.tmp 30) 24 rfl w.heap.size 5 i0 (.int .u8 0) 1 1 Try.underlying24 HI.out HZ0.out HZ1.out HZ2.out rfl (by decide) _ ys.length (u8s ys) rfl (HO2.out.alloc _) ⟨wr.heap.size, 0, none⟩ 1 1 (u8s [k]) rfl rfl (byte_at (by first | rfl | omega)) (u8s_one _) (by unfold maxLen; omega) (by omega) (by simp; omega) ?_; intro v' w2 hown3 hgrow3 hnil3)
      have hb3 := grown_below HB2.out HO2.out hgrow3 hz2
      rw [← u8s_append, show ys.length + 1 = (ys ++ [k]).length by simp] at hown3
      have HB3 := hid hb3
      have HO3 := hid hown3
      clear hb3 hown3 hgrow3 hnil3
      go_wp2_with fail
      go_ret2
      rw [show encN z = [] ++ encN z from rfl, HE.out]
      exact ⟨⟨_, rfl, HO3.out⟩, HB3.out⟩
/-- bytes that a slice of one's own holds; none of them: the nil slice -/
def OwnB (w : World) (B : Nat) (v : Value) (xs : List Nat) : Prop := w.ownsRow B 5 1 v xs.length (u8s xs) ∧ (xs = [] → v = .slice none 0 0)
theorem OwnB.nil (w : World) (B : Nat) : OwnB w B (.slice none 0 0) [] := ⟨World.ownsRow_nil _ _ _ _, fun _ => rfl⟩
theorem OwnB.of {w : World} {B : Nat} {v : Value} {xs : List Nat} (h : w.ownsRow B 5 1 v xs.length (u8s xs)) (hp : 0 < xs.length) : OwnB w B v xs := ⟨h, fun e => by subst e; cases hp⟩
theorem OwnB.base {w : World} {B B' : Nat} {v : Value} {xs : List Nat} (h : OwnB w B v xs) (hB : B' ≤ B) : OwnB w B' v xs := ⟨own_base h.1 hB, h.2⟩
theorem OwnB.cases {w : World} {B : Nat} {v : Value} {xs : List Nat} (h : OwnB w B v xs) : (v = .slice none 0 0 ∧ xs = []) ∨ (∃ g cap, v = .slice (some ⟨g, 0, none⟩) xs.length cap ∧ B ≤ g ∧ 0 < xs.length) := by
  obtain ⟨⟨_, h2⟩, h3⟩ := h
  by_cases he : xs = []
  · exact Or.inl ⟨h3 he, he⟩
  · have hp : 0 < xs.length := List.length_pos_iff.2 he
    rcases h2 with ⟨_, h0⟩ | ⟨g, cap, cur, hv, hg, _⟩
    · omega
    · exact Or.inr ⟨g, cap, hv, hg, hp⟩
theorem rNumber_own {v : Value} {z : Nat} {xs : List Nat} {w : World} (hown : OwnB w 0 v xs) (hn : xs.length ≤ 1000000) (hz : z ≤ 4611686018427387903) :
    Calls Try.prog 75 #[v, .int .i64 z] w fun e w' => (∃ v', e = .returned (.tuple #[v', .int .i64 0]) ∧ OwnB w' w.heap.size v' (xs ++ encN z)) ∧ Below w.heap.size w w' := by
  have hp : 0 < (xs ++ encN z).length := by have := encN_pos z; simp; omega
  rcases hown.cases with ⟨rfl, rfl⟩ | ⟨g, cap, rfl, _, h0⟩
  · refine (rNumber_nil z w hz).mono ?_
    rintro r w1 ⟨⟨v, rfl, h⟩, hb⟩
    exact ⟨⟨v, rfl, OwnB.of h hp⟩, hb⟩
  · refine (rNumber_any g _ cap z xs w hown.1 hn h0 hz).mono ?_
    rintro r w1 ⟨⟨v, rfl, h⟩, hb⟩
    exact ⟨⟨v, rfl, OwnB.of h hp⟩, hb⟩
end Go.Proofs.Ytpablkmdpoombaa

/- Writes -/
namespace Go.Proofs.Ytpablkmdpoombaa
open Go.RowKit

/-- a signed number as one that is not negative -/
def zig (z : Int) : Nat := if z < 0 then (-2 * z - 1).toNat else (2 * z).toNat

theorem rSigned_own {v : Value} {z : Int} {xs : List Nat} {w : World} (hown : OwnB w 0 v xs) (hn : xs.length ≤ 1000000) (hz : -2305843009213693952 ≤ z ∧ z ≤ 2305843009213693951) :
    Calls Try.prog 78 #[v, .int .i64 z] w fun e w' => (∃ v', e = .returned (.tuple #[v', .int .i64 0]) ∧ OwnB w' w.heap.size v' (xs ++ encN (zig z))) ∧ Below w.heap.size w w' := by
  by_cases h0 : z < 0
  · have H := hid (rNumber_own (z := zig z) hown hn (by unfold zig; rw [if_pos h0]; omega))
    have HE := hid (show ((zig z : Nat) : Int) = -2 * z - 1 by unfold zig; rw [if_pos h0]; omega)
    generalize zig z = q at *
    rw [HE.out] at H
    clear hown
    go_enter Try.func78, Try.ntmps78
    go_wp2_with fail
    refine H.out.mono ?_
    rintro r w1 ⟨⟨v, rfl, hown1⟩, hb⟩
    have HB := hid hb
    have HO := hid hown1
    clear hb hown1
    go_wp2_with fail
    go_ret2
    exact ⟨⟨_, rfl, HO.out⟩, HB.out⟩
  · have H := hid (rNumber_own (z := zig z) hown hn (by unfold zig; rw [if_neg h0]; omega))
    have HE := hid (show ((zig z : Nat) : Int) = 2 * z by unfold zig; rw [if_neg h0]; omega)
    generalize zig z = q at *
    rw [HE.out] at H
    clear hown
    go_enter Try.func78, Try.ntmps78
    go_wp2_with fail
    refine H.out.mono ?_
    rintro r w1 ⟨⟨v, rfl, hown1⟩, hb⟩
    have HB := hid hb
    have HO := hid hown1
    clear hb hown1
    go_wp2_with fail
    go_ret2
    exact ⟨⟨_, rfl, HO.out⟩, HB.out⟩

/-- the bytes of several numbers -/
def encs {α : Type} (f : α → List Nat) (zs : List α) : List Nat := (zs.map f).flatten
theorem encs_step {α : Type} {f : α → List Nat} {zs : List α} {k : Nat} (hk : k < zs.length) : encs f (zs.take (k + 1)) = encs f (zs.take k) ++ f zs[k] := by
  unfold encs
  rw [List.take_succ_eq_append_getElem hk, List.map_append, List.flatten_append]; simp
theorem encs_len {α : Type} {f : α → List Nat} {m : Nat} : ∀ (zs : List α), (∀ z ∈ zs, (f z).length ≤ m) → (encs f zs).length ≤ zs.length * m
  | [], _ => by simp [encs]
  | z :: zs, h => by
    have h1 := encs_len zs (fun y hy => h y (by simp [hy]))
    have h2 := h z (by simp)
    have h3 : encs f (z :: zs) = f z ++ encs f zs := rfl
    rw [h3, List.length_append, List.length_cons, Nat.succ_mul]; omega

theorem zig_len {z : Int} (h : -2305843009213693952 ≤ z ∧ z ≤ 2305843009213693951) : (encN (zig z)).length ≤ 9 := by
  refine encN_len 8 _ ?_
  unfold zig
  split <;> omega
theorem nat_len {z : Int} (h : 0 ≤ z ∧ z ≤ 4611686018427387903) : (encN z.toNat).length ≤ 9 := encN_len 8 _ (by omega)
def encU (z : Int) : List Nat := encN z.toNat
def encS (z : Int) : List Nat := encN (zig z)
set_option maxRecDepth 100000 in
theorem rNumbers_own {B lb lo lc m : Nat} {v0 : Value} {zs : List Int} {xs : List Nat} {w : World} (hown : OwnB w B v0 xs) (hB0 : B ≤ w.heap.size) (hn : xs.length ≤ 900000) (hz : ∀ z ∈ zs, 0 ≤ z ∧ z ≤ 4611686018427387903) (hm : zs.length = m) (hzl : m ≤ 10)
    (hl : ∀ i, i < m → w.cell? ⟨lb, lo + i, none⟩ = some (.int .i64 (zs.getD i 0))) (hlb : lb < w.heap.size) :
    Calls Try.prog 39 #[v0, .slice (some ⟨lb, lo, none⟩) m lc] w fun e w' => (∃ v, e = .returned v ∧ OwnB w' B v (xs ++ encs encU zs)) ∧ Below w.heap.size w w' := by
  have HO := hid hown
  have HZ := hid hz
  have HL := hid hl
  clear hown hz hl
  have HM := hid hm
  clear hm
  go_enter Try.func39, Try.ntmps39
  go_wp2_with fail
  go_loopw [0, 9] (fun v i wr => ∃ (k : Nat) (ys : List Nat), k ≤ m ∧ i = .int .i64 k ∧ ys = xs ++ encs encU (zs.take k) ∧ OwnB wr B v ys ∧ Below w.heap.size w wr) (fun _ i _ => m - (intOf i).toNat)
  case atStart => exact ⟨0, xs, by omega, rfl, by simp [encs], HO.out, Below.refl _ _⟩
  case round =>
    obtain ⟨k, ys, hk, rfl, he, hown2, hB⟩ := hrel
    have HB2 := hid hB
    have HO2 := hid hown2
    have HE := hid he
    by_cases hlt : k < m
    · have hkz : k < zs.length := by rw [HM.out]; exact hlt
      have hc : wr.cell? ⟨lb, lo + k, none⟩ = some (.int .i64 zs[k]) := by rw [hB.cell hlb, ← show zs.getD k 0 = zs[k] by simp [List.getD_eq_getElem?_getD, hkz]]; exact HL.out k hlt
      have hzk := HZ.out zs[k] (List.getElem_mem hkz)
      have hyb : ys.length ≤ 1000000 := by
        have h1 := encs_len (f := encU) (m := 9) (zs.take k) (fun z hz => nat_len (HZ.out z (List.mem_of_mem_take hz)))
        rw [he, List.length_append]
        have h2 : (zs.take k).length ≤ 10 := by simp; omega
        omega
      have HST := hid (show xs ++ encs encU (zs.take (k + 1)) = ys ++ encU zs[k] by rw [encs_step hkz, he]; simp)
      clear he hB hown2
      generalize zs[k] = z at *
      go_wp2_with fail
      obtain ⟨q, rfl⟩ : ∃ q : Nat, z = q := ⟨z.toNat, by omega⟩
      refine (rNumber_own (z := q) (HO2.out.base (Nat.zero_le _)) hyb (by omega)).mono ?_
      rintro r w1 ⟨⟨v, rfl, hown3⟩, hb⟩
      have HB3 := hid (HB2.out.trans (hb.mono HB2.out.size))
      have HO3 := hid (hown3.base (Nat.le_trans hB0 HB2.out.size))
      clear hb hown3
      go_wp2_with fail
      go_roundw
      case rel => exact ⟨k + 1, _, by omega, by go_num, HST.out.symm, HO3.out, HB3.out⟩
      case measure => simp [intOf]; omega
    · obtain rfl : k = m := by omega
      have HF := hid (show xs ++ encs encU zs = ys by rw [he, List.take_of_length_le (Nat.le_of_eq HM.out)])
      clear he hB hown2
      go_wp2_with fail
      go_ret
      rw [HF.out]
      exact ⟨⟨_, rfl, HO2.out⟩, HB2.out⟩
end Go.Proofs.Ytpablkmdpoombaa

/- Link -/
namespace Go.Proofs.Ytpablkmdpoombaa
open Go.RowKit

theorem run_make_lc {P : Program} (t e : TypeId) (i : TypeInfo) (z : Value) (ht : P.underlying t = some (.slice e)) (hi : P.info? e = some i) (hz : i.zero = some z) (hsize : i.size = 1) (hz1 : z.cells = #[z])
    (kl kc : IntKind) (l n : Nat) (hl : l ≤ n) (hbytes : i.bytes * n ≤ 281474976710656) (h63 : n ≤ 9223372036854775807) (w : World) :
    (Instr.makeSlice t (.int kl (l : Int)) (.int kc (n : Int))).run P w = .ok (.slice (some ⟨w.heap.size, 0, none⟩) l n) (w.alloc (.cells (madeCells #[z] n) e)) := by
  have hb' : (i.bytes : Int) * (n : Int) ≤ 281474976710656 := by
    have h : ((i.bytes * n : Nat) : Int) ≤ 281474976710656 := by omega
    rwa [Int.natCast_mul] at h
  have hr := run_make (P := P) w t e i z ht hi hz kl kc l n (by omega) (by omega) hb' (by omega)
  simp only [Int.toNat_natCast, hsize, Nat.mul_one, hz1] at hr
  exact hr
theorem wpList_make_lc {P : Program} (w : World) {ops : Array Oper} {rest : List Oper} {o : Oper} {a : Act} {Q : Exit → Act → World → Prop}
    (hg : o.guard = none) (l c : Operand) (t : TypeId) (hop : o.op = Op.makeSlice t l c)
    (e : TypeId) (i : TypeInfo) (z : Value) (ht : P.underlying t = some (.slice e)) (hi : P.info? e = some i) (hz : i.zero = some z) (hsize : i.size = 1) (hz1 : z.cells = #[z])
    (kl kc : IntKind) (L C : Int) (m n : Nat) (hl : a.eval l = .int kl L) (hc : a.eval c = .int kc C) (hL : L = m) (hC : C = n) (hmn : m ≤ n) (hbytes : i.bytes * n ≤ 281474976710656) (h63 : n ≤ 9223372036854775807)
    (hK : wpList P ops Q rest (a.put o.dst (.slice (some ⟨w.heap.size, 0, none⟩) m n)) (w.alloc (.cells (madeCells #[z] n) e))) :
    wpList P ops Q (o :: rest) a w := by
  refine wpList_plain hg fun K hK' => ?_
  have hrun := run_make_lc (P := P) t e i z ht hi hz hsize hz1 kl kc m n hmn hbytes h63 w
  subst hL hC
  unfold Oper.wp
  simp [execOp, hop, hl, hc, hrun, Result.andThen]
  exact hK' _ _ hK
theorem or128 {r : Int} (h : 0 ≤ r ∧ r < 128) : bits .or .u8 r 128 = r + 128 := by
  rw [show bits .or .u8 r 128 = bits .or .u8 128 r by simp [bits, BitVec.or_comm]]
  rw [bits_join .u8 8 (by decide) (fun n h1 h2 => by rw [IntKind.wrap_u8]; omega) 7 128 r (by omega) (by decide) (by decide) h.1 (by omega) (by omega)]
  omega

theorem size5 : (Try.prog.info? 5).map (·.size) = some 1 := by kernel_rfl
theorem cell_past {w : World} {a : Addr} {v : Value} {o : Obj} (h : w.cell? a = some v) : (w.alloc o).cell? a = some v := by
  have hlt : a.block < w.heap.size := by
    unfold World.cell? at h
    split at h
    · rename_i hx; exact (Array.getElem?_eq_some_iff.1 hx).1
    · simp at h
  rw [World.cell?_of_block (w := w) (w' := w.alloc o) (a := a) (Below.heap_alloc w o _ hlt)]; exact h
theorem own_copied (w : World) (n : Nat) (xs : List Nat) (hlen : xs.length = n) (hn : n ≤ 1000000) :
    (w.alloc (.cells ((madeCells #[.int .u8 0] (n + 9)).toList.take 0 ++ (u8s xs ++ (madeCells #[.int .u8 0] (n + 9)).toList.drop (0 + (u8s xs).length))).toArray 5)).ownsRow w.heap.size 5 1 (.slice (some ⟨w.heap.size, 0, none⟩) n (n + 9)) n (u8s xs) := by
  have h1 : (u8s xs).length = n := by simp [u8s, hlen]
  refine ⟨by omega, Or.inr ⟨w.heap.size, n + 9, _, rfl, Nat.le_refl _, heap_alloc_at _ _ _ rfl, by omega, by unfold maxLen; omega, ?_, ?_⟩⟩
  · simp [h1, size_madeCells]
  · simp [h1]

set_option maxRecDepth 100000 in
theorem xNumber_any (g n cap z : Nat) (xs : List Nat) (w : World) (hown : w.ownsRow 0 5 1 (.slice (some ⟨g, 0, none⟩) n cap) n (u8s xs)) (hn : n ≤ 1000000) (hn0 : 0 < n) (hz : z ≤ 4611686018427387903) :
    Calls Try.prog 34 #[.slice (some ⟨g, 0, none⟩) n cap, .int .i64 z] w fun e w' => (∃ v, e = .returned (.tuple #[v, .int .i64 0]) ∧ w'.ownsRow w.heap.size 5 1 v (xs ++ encN z).length (u8s (xs ++ encN z))) ∧ Below w.heap.size w w' := by
  obtain ⟨i0, hi, hz0, hz1, hz2⟩ := info_parts info5
  have HO := hid hown
  have HI := hid hi
  have HZ0 := hid hz0
  have HZ1 := hid hz1
  have HZ2 := hid hz2
  have hlen : xs.length = n := by have := hown.1; simpa [u8s] using this
  have hel := encN_len 8 z (by omega)
  clear hown hi hz0 hz1 hz2
  go_enter Try.func34, Try.ntmps34
  go_wp2_with (first | (refine wpList_make_lc _ rfl (.tmp 14) (.tmp 17) 24 rfl 5 i0 (.int .u8 0) Try.underlying24 HI.out HZ0.out HZ1.out rfl .i64 .i64 _ _ n (n + 9) rfl rfl (by omega) (by omega) (by omega) (by rw [HZ2.out]; omega) (by omega) ?_) | (refine wpList_copy_own rfl (.tmp 19) (.tmp 20) 24 24 rfl 5 Try.underlying24 size5 w.heap.size 0 n (n + 9) ⟨g, 0, none⟩ n cap rfl rfl (madeCells #[.int .u8 0] (n + 9)) 5 (heap_alloc_at _ _ _ rfl) (u8s xs) (by rw [show (u8s xs).length = n by simp [u8s, hlen]]; exact (Nat.min_self n).symm) (fun j v hj => cell_past (HO.out.cells (g := g) rfl j v hj)) (by simp [u8s, hlen, size_madeCells]) (u8s_one xs) ?_; rw [setRow_new _ _ _ _ _ _ rfl]))
  have HO1 := hid (own_copied w n xs hlen hn)
  have HB := hid ((Below.refl w.heap.size w).alloc (Nat.le_refl _) (.cells ((madeCells #[.int .u8 0] (n + 9)).toList.take 0 ++ (u8s xs ++ (madeCells #[.int .u8 0] (n + 9)).toList.drop (0 + (u8s xs).length))).toArray 5))
  refine gen_world (fun W hW => ?_)
  rw [← hW] at HO1 HB
  clear hW
  go_frame
  go_loopw [1, 6] (fun q v wr => ∃ (k : Nat) (ys : List Nat), k ≤ z ∧ q = .int .i64 k ∧ xs ++ encN z = ys ++ encN k ∧ wr.ownsRow w.heap.size 5 1 v ys.length (u8s ys) ∧ Below w.heap.size w wr) (fun q _ _ => (intOf q).toNat)
  case atStart => exact ⟨z, xs, Nat.le_refl _, rfl, rfl, by rw [hlen]; exact HO1.out, HB.out⟩
  case round =>
    obtain ⟨k, ys, hk, rfl, he, hown2, hB⟩ := hrel
    have hz2 := hB.size
    have HB2 := hid hB
    have HO2 := hid hown2
    have hle : ys.length ≤ 1000100 := by
      have h1 := congrArg List.length he
      simp at h1
      omega
    by_cases h1 : 128 ≤ k
    · have HE := hid (show xs ++ encN z = (ys ++ [k % 128 + 128]) ++ encN (k / 128) by rw [he, encN_more h1]; simp)
      have ho := or128 (r := (k : Int) % 128) (by omega)
      clear he hB hown2
      go_wp2_with (at_builtin; refine wpList_append_own _ rfl (.tmp 24) (.tmp 29) 24 rfl w.heap.size 5 i0 (.int .u8 0) 1 1 Try.underlying24 HI.out HZ0.out HZ1.out HZ2.out rfl (by decide) _ ys.length (u8s ys) rfl (HO2.out.alloc _) ⟨wr.heap.size, 0, none⟩ 1 1 (u8s [k % 128 + 128]) rfl rfl (byte_at (by omega)) (u8s_one _) (by unfold maxLen; omega) (by omega) (by simp; omega) ?_; intro v' w2 hown3 hgrow3 hnil3)
      have hb3 := grown_below HB2.out HO2.out hgrow3 hz2
      rw [← u8s_append, show ys.length + 1 = (ys ++ [k % 128 + 128]).length by simp] at hown3
      have HB3 := hid hb3
      have HO3 := hid hown3
      clear hb3 hown3 hgrow3 hnil3
      go_wp2_with fail
      go_roundw
      case rel => ((repeat apply Exists.intro); exact ⟨⟨k / 128, ys ++ [k % 128 + 128], by omega, by go_num, HE.out, HO3.out, HB3.out⟩, rfl⟩)
      case measure => simp [intOf]; omega
    · have HE := hid (show xs ++ encN z = ys ++ [k] by rw [he, encN_last h1])
      clear he hB hown2
      go_wp2_with (at_builtin; refine wpList_append_own _ rfl (.tmp 33) (.tmp 36) 24 rfl w.heap.size 5 i0 (.int .u8 0) 1 1 Try.underlying24 HI.out HZ0.out HZ1.out HZ2.out rfl (by decide) _ ys.length (u8s ys) rfl (HO2.out.alloc _) ⟨wr.heap.size, 0, none⟩ 1 1 (u8s [k]) rfl rfl (byte_at (by first | rfl | omega)) (u8s_one _) (by unfold maxLen; omega) (by omega) (by simp; omega) ?_; intro v' w2 hown3 hgrow3 hnil3)
      have hb3 := grown_below HB2.out HO2.out hgrow3 hz2
      rw [← u8s_append, show ys.length + 1 = (ys ++ [k]).length by simp] at hown3
      have HB3 := hid hb3
      have HO3 := hid hown3
      clear hb3 hown3 hgrow3 hnil3
      go_wp2_with fail
      go_ret2
      rw [HE.out]
      exact ⟨⟨_, rfl, HO3.out⟩, HB3.out⟩
theorem own_made (w : World) : (w.alloc (.cells (madeCells #[.int .u8 0] 9) 5)).ownsRow w.heap.size 5 1 (.slice (some ⟨w.heap.size, 0, none⟩) 0 9) 0 (u8s []) :=
  ⟨rfl, Or.inr ⟨w.heap.size, 9, _, rfl, Nat.le_refl _, heap_alloc_at _ _ _ rfl, by omega, by unfold maxLen; omega, by simp [size_madeCells], by simp [u8s]⟩⟩
set_option maxRecDepth 100000 in
theorem xNumber_nil (z : Nat) (w : World) (hz : z ≤ 4611686018427387903) :
    Calls Try.prog 34 #[.slice none 0 0, .int .i64 z] w fun e w' => (∃ v, e = .returned (.tuple #[v, .int .i64 0]) ∧ w'.ownsRow w.heap.size 5 1 v (encN z).length (u8s (encN z))) ∧ Below w.heap.size w w' := by
  obtain ⟨i0, hi, hz0, hz1, hz2⟩ := info_parts info5
  have HI := hid hi
  have HZ0 := hid hz0
  have HZ1 := hid hz1
  have HZ2 := hid hz2
  have hel := encN_len 8 z (by omega)
  clear hi hz0 hz1 hz2
  go_enter Try.func34, Try.ntmps34
  go_wp2_with (first | (refine wpList_make_lc _ rfl (.tmp 14) (.tmp 17) 24 rfl 5 i0 (.int .u8 0) Try.underlying24 HI.out HZ0.out HZ1.out rfl .i64 .i64 _ _ 0 9 rfl rfl (by omega) (by omega) (by omega) (by rw [HZ2.out]; omega) (by omega) ?_) | (refine wpList_copy_nothing rfl (.tmp 19) (.tmp 20) 24 24 rfl 5 Try.underlying24 size5 _ _ 0 9 0 0 rfl rfl rfl ?_))
  have HO1 := hid (own_made w)
  have HB := hid ((Below.refl w.heap.size w).alloc (Nat.le_refl _) (.cells (madeCells #[.int .u8 0] 9) 5))
  refine gen_world (fun W hW => ?_)
  rw [← hW] at HO1 HB
  clear hW
  go_frame
  go_loopw [1, 6] (fun q v wr => ∃ (k : Nat) (ys : List Nat), k ≤ z ∧ q = .int .i64 k ∧ [] ++ encN z = ys ++ encN k ∧ wr.ownsRow w.heap.size 5 1 v ys.length (u8s ys) ∧ Below w.heap.size w wr) (fun q _ _ => (intOf q).toNat)
  case atStart => exact ⟨z, [], Nat.le_refl _, rfl, rfl, HO1.out, HB.out⟩
  case round =>
    obtain ⟨k, ys, hk, rfl, he, hown2, hB⟩ := hrel
    have hz2 := hB.size
    have HB2 := hid hB
    have HO2 := hid hown2
    have hle : ys.length ≤ 1000100 := by
      have h1 := congrArg List.length he
      simp at h1
      omega
    by_cases h1 : 128 ≤ k
    · have HE := hid (show [] ++ encN z = (ys ++ [k % 128 + 128]) ++ encN (k / 128) by rw [he, encN_more h1]; simp)
      have ho := or128 (r := (k : Int) % 128) (by omega)
      clear he hB hown2
      go_wp2_with (at_builtin; refine wpList_append_own _ rfl (.tmp 24) (.tmp 29) 24 rfl w.heap.size 5 i0 (.int .u8 0) 1 1 Try.underlying24 HI.out HZ0.out HZ1.out HZ2.out rfl (by decide) _ ys.length (u8s ys) rfl (HO2.out.alloc _) ⟨wr.heap.size, 0, none⟩ 1 1 (u8s [k % 128 + 128]) rfl rfl (byte_at (by omega)) (u8s_one _) (by unfold maxLen; omega) (by omega) (by simp; omega) ?_; intro v' w2 hown3 hgrow3 hnil3)
      have hb3 := grown_below HB2.out HO2.out hgrow3 hz2
      rw [← u8s_append, show ys.length + 1 = (ys ++ [k % 128 + 128]).length by simp] at hown3
      have HB3 := hid hb3
      have HO3 := hid hown3
      clear hb3 hown3 hgrow3 hnil3
      go_wp2_with fail
      go_roundw
      case rel => ((repeat apply Exists.intro); exact ⟨⟨k / 128, ys ++ [k % 128 + 128], by omega, by go_num, HE.out, HO3.out, HB3.out⟩, rfl⟩)
      case measure => simp [intOf]; omega
    · have HE := hid (show [] ++ encN z = ys ++ [k] by rw [he, encN_last h1])
      clear he hB hown2
      go_wp2_with (at_builtin; refine wpList_append_own _ rfl (.tmp 33) (.tmp 36) 24 rfl w.heap.size 5 i0 (.int .u8 0) 1 1 Try.underlying24 HI.out HZ0.out HZ1.out HZ2.out rfl (by decide) _ ys.length (u8s ys) rfl (HO2.out.alloc _) ⟨wr.heap.size, 0, none⟩ 1 1 (u8s [k]) rfl rfl (byte_at (by first | rfl | omega)) (u8s_one _) (by unfold maxLen; omega) (by omega) (by simp; omega) ?_; intro v' w2 hown3 hgrow3 hnil3)
      have hb3 := grown_below HB2.out HO2.out hgrow3 hz2
      rw [← u8s_append, show ys.length + 1 = (ys ++ [k]).length by simp] at hown3
      have HB3 := hid hb3
      have HO3 := hid hown3
      clear hb3 hown3 hgrow3 hnil3
      go_wp2_with fail
      go_ret2
      rw [show encN z = [] ++ encN z from rfl, HE.out]
      exact ⟨⟨_, rfl, HO3.out⟩, HB3.out⟩
theorem xNumber_own {v : Value} {z : Nat} {xs : List Nat} {w : World} (hown : OwnB w 0 v xs) (hn : xs.length ≤ 1000000) (hz : z ≤ 4611686018427387903) :
    Calls Try.prog 34 #[v, .int .i64 z] w fun e w' => (∃ v', e = .returned (.tuple #[v', .int .i64 0]) ∧ OwnB w' w.heap.size v' (xs ++ encN z)) ∧ Below w.heap.size w w' := by
  have hp : 0 < (xs ++ encN z).length := by have := encN_pos z; simp; omega
  rcases hown.cases with ⟨rfl, rfl⟩ | ⟨g, cap, rfl, _, h0⟩
  · refine (xNumber_nil z w hz).mono ?_
    rintro r w1 ⟨⟨v, rfl, h⟩, hb⟩
    exact ⟨⟨v, rfl, OwnB.of h hp⟩, hb⟩
  · refine (xNumber_any g _ cap z xs w hown.1 hn h0 hz).mono ?_
    rintro r w1 ⟨⟨v, rfl, h⟩, hb⟩
    exact ⟨⟨v, rfl, OwnB.of h hp⟩, hb⟩
theorem xSigned_own {v : Value} {z : Int} {xs : List Nat} {w : World} (hown : OwnB w 0 v xs) (hn : xs.length ≤ 1000000) (hz : -2305843009213693952 ≤ z ∧ z ≤ 2305843009213693951) :
    Calls Try.prog 36 #[v, .int .i64 z] w fun e w' => (∃ v', e = .returned (.tuple #[v', .int .i64 0]) ∧ OwnB w' w.heap.size v' (xs ++ encN (zig z))) ∧ Below w.heap.size w w' := by
  by_cases h0 : z < 0
  · have H := hid (xNumber_own (z := zig z) hown hn (by unfold zig; rw [if_pos h0]; omega))
    have HE := hid (show ((zig z : Nat) : Int) = -2 * (z + 1) + 1 by unfold zig; rw [if_pos h0]; omega)
    generalize zig z = q at *
    rw [HE.out] at H
    clear hown
    go_enter Try.func36, Try.ntmps36
    go_wp2_with fail
    refine H.out.mono ?_
    rintro r w1 ⟨⟨v, rfl, hown1⟩, hb⟩
    have HB := hid hb
    have HO := hid hown1
    clear hb hown1
    go_wp2_with fail
    go_ret2
    exact ⟨⟨_, rfl, HO.out⟩, HB.out⟩
  · have H := hid (xNumber_own (z := zig z) hown hn (by unfold zig; rw [if_neg h0]; omega))
    have HE := hid (show ((zig z : Nat) : Int) = 2 * z by unfold zig; rw [if_neg h0]; omega)
    generalize zig z = q at *
    rw [HE.out] at H
    clear hown
    go_enter Try.func36, Try.ntmps36
    go_wp2_with fail
    refine H.out.mono ?_
    rintro r w1 ⟨⟨v, rfl, hown1⟩, hb⟩
    have HB := hid hb
    have HO := hid hown1
    clear hb hown1
    go_wp2_with fail
    go_ret2
    exact ⟨⟨_, rfl, HO.out⟩, HB.out⟩

end Go.Proofs.Ytpablkmdpoombaa

