/- Signed numbers of bytes: what the readers of the program and of its reference return. -/
import Derived.Test.YteanlcefdoigcaaNum
namespace Go.Proofs.Yteanlcefdoigcaa
open Go.RowKit

/-- what a reader of a signed number returns -/
def signV (x : Int × Int × Int) : Int × Int × Int := if x.2.2 = 0 then (if x.1 % 2 = 1 then (-(x.1 / 2) - 1, x.2.1, 0) else (x.1 / 2, x.2.1, 0)) else (0, 0, x.2.2)
theorem int3_eq (x : Int × Int × Int) : int3 x = .tuple #[.int .i64 x.1, .int .i64 x.2.1, .int .i64 x.2.2] := rfl
theorem rd_bd (g : Nat → Nat) (n : Nat) : ∀ f i, (0 ≤ (rd g n f i).1 ∧ (rd g n f i).1 ≤ 4611686018427387903) ∧ ((rd g n f i).2.2 = 0 → i ≤ n → (i : Int) + 1 ≤ (rd g n f i).2.1 ∧ (rd g n f i).2.1 ≤ n)
  | 0, i => by simp [rd]
  | f + 1, i => by
    unfold rd
    split
    · simp
    · split
      · have h := rd_bd g n f (i + 1)
        refine ⟨h.1, fun h1 h2 => ?_⟩
        have h3 := h.2 h1 (by omega)
        omega
      · split
        · simp
        · simp; omega
theorem readV_bd (g : Nat → Nat) (n : Nat) : 0 ≤ (readV g n).1 ∧ (readV g n).1 ≤ 4611686018427387903 := (rd_bd g n 9 0).1
theorem readV_size (g : Nat → Nat) (n : Nat) (h : (readV g n).2.2 = 0) : 1 ≤ (readV g n).2.1 ∧ (readV g n).2.1 ≤ n := (rd_bd g n 9 0).2 h (by omega)
theorem signV_size (x : Int × Int × Int) : (signV x).2.2 = x.2.2 ∧ (x.2.2 = 0 → (signV x).2.1 = x.2.1) := by
  obtain ⟨v, s, e⟩ := x
  unfold signV
  split
  · rename_i h; simp only at h; subst h; split <;> simp
  · rename_i h; exact ⟨rfl, fun h2 => absurd h2 h⟩

theorem xSigned_any (b off n c : Nat) (g : Nat → Nat) (w : World) (hn : n ≤ 9223372036854775807) (hg : ∀ i, g i < 256) (hc : bytesAt w b off n g) :
    Calls Try.prog 136 #[.slice (some ⟨b, off, none⟩) n c] w fun e w' => e = .returned (int3 (signV (readV g n))) ∧ w = w' := by
  have H := hid (xRead_any b off n c g w hn hg hc)
  have hb := readV_bd g n
  have hs := int3_eq (readV g n)
  generalize readV g n = x at *
  obtain ⟨v, s, e⟩ := x
  rw [hs] at H
  clear hs hc hg
  simp only at hb H
  by_cases he : e = 0
  · subst he
    by_cases ho : v % 2 = 1
    · have HX := hid (show signV (v, s, 0) = (-(v / 2) - 1, s, 0) by simp [signV, ho])
      go_enter Try.func136, Try.ntmps136
      go_wp2_with fail
      refine H.out.mono ?_
      rintro r w1 ⟨rfl, rfl⟩
      go_wp2_with fail
      go_ret3
      exact ⟨by rw [HX.out]; rfl, rfl⟩
    · have HX := hid (show signV (v, s, 0) = (v / 2, s, 0) by simp [signV, ho])
      have hev : v % 2 = 0 := by omega
      go_enter Try.func136, Try.ntmps136
      go_wp2_with fail
      refine H.out.mono ?_
      rintro r w1 ⟨rfl, rfl⟩
      go_wp2_with fail
      go_ret3
      exact ⟨by rw [HX.out]; rfl, rfl⟩
  · have HX := hid (show signV (v, s, e) = (0, 0, e) from if_neg he)
    go_enter Try.func136, Try.ntmps136
    go_wp2_with fail
    refine H.out.mono ?_
    rintro r w1 ⟨rfl, rfl⟩
    go_wp2_with fail
    go_ret3
    exact ⟨by rw [HX.out]; rfl, rfl⟩

theorem rSigned_any (b off n c : Nat) (g : Nat → Nat) (w : World) (hn : n ≤ 9223372036854775807) (hg : ∀ i, g i < 256) (hc : bytesAt w b off n g) :
    Calls Try.prog 115 #[.slice (some ⟨b, off, none⟩) n c] w fun e w' => e = .returned (int3 (signV (readV g n))) ∧ w = w' := by
  have H := hid (rRead_any b off n c g w hn hg hc)
  have hb := readV_bd g n
  have hs := int3_eq (readV g n)
  generalize readV g n = x at *
  obtain ⟨v, s, e⟩ := x
  rw [hs] at H
  clear hs hc hg
  simp only at hb H
  by_cases he : e = 0
  · subst he
    by_cases ho : v % 2 = 1
    · have HX := hid (show signV (v, s, 0) = (-((v + 1) / 2), s, 0) by simp [signV, ho]; omega)
      go_enter Try.func115, Try.ntmps115
      go_wp2_with fail
      refine H.out.mono ?_
      rintro r w1 ⟨rfl, rfl⟩
      go_wp2_with fail
      go_ret3
      exact ⟨by rw [HX.out]; rfl, rfl⟩
    · have HX := hid (show signV (v, s, 0) = (v / 2, s, 0) by simp [signV, ho])
      have hev : v % 2 = 0 := by omega
      go_enter Try.func115, Try.ntmps115
      go_wp2_with fail
      refine H.out.mono ?_
      rintro r w1 ⟨rfl, rfl⟩
      go_wp2_with fail
      go_ret3
      exact ⟨by rw [HX.out]; rfl, rfl⟩
  · have HX := hid (show signV (v, s, e) = (0, 0, e) from if_neg he)
    go_enter Try.func115, Try.ntmps115
    go_wp2_with fail
    refine H.out.mono ?_
    rintro r w1 ⟨rfl, rfl⟩
    go_wp2_with fail
    go_ret3
    exact ⟨by rw [HX.out]; rfl, rfl⟩
end Go.Proofs.Yteanlcefdoigcaa
