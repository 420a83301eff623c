/- Numbers written one after the other by the reference. -/
import Derived.Test.YteanlcefdoigcaaWrite
namespace Go.Proofs.Yteanlcefdoigcaa
open Go.RowKit

theorem own_shape {w : World} {B : Nat} {e : TypeId} {s n : Nat} {v : Value} {xs : List Value} (h : w.ownsRow B e s v n xs) (hn : 0 < n) : ∃ g cap, v = .slice (some ⟨g, 0, none⟩) n cap ∧ B ≤ g := by
  obtain ⟨h1, h2⟩ := h
  rcases h2 with ⟨_, h0⟩ | ⟨g, cap, cur, hv, hg, _⟩
  · omega
  · exact ⟨g, cap, hv, hg⟩
/-- a signed number as one that is not negative -/
def zig (z : Int) : Nat := if z < 0 then (-2 * z - 1).toNat else (2 * z).toNat

theorem rSigned_own {v : Value} {z : Int} {xs : List Nat} {w : World} (hown : OwnB w 0 v xs) (hn : xs.length ≤ 1000000) (hz : -2305843009213693952 ≤ z ∧ z ≤ 2305843009213693951) :
    Calls Try.prog 122 #[v, .int .i64 z] w fun e w' => (∃ v', e = .returned (.tuple #[v', .int .i64 0]) ∧ OwnB w' w.heap.size v' (xs ++ encN (zig z))) ∧ Below w.heap.size w w' := by
  by_cases h0 : z < 0
  · have H := hid (rNumber_own (z := zig z) hown hn (by unfold zig; rw [if_pos h0]; omega))
    have HE := hid (show ((zig z : Nat) : Int) = -2 * z - 1 by unfold zig; rw [if_pos h0]; omega)
    generalize zig z = q at *
    rw [HE.out] at H
    clear hown
    go_enter Try.func122, Try.ntmps122
    go_wp2_with fail
    refine H.out.mono ?_
    rintro r w1 ⟨⟨v, rfl, hown1⟩, hb⟩
    have HB := hid hb
    have HO := hid hown1
    clear hb hown1
    go_wp2_with fail
    go_ret2
    exact ⟨⟨_, rfl, HO.out⟩, HB.out⟩
  · have H := hid (rNumber_own (z := zig z) hown hn (by unfold zig; rw [if_neg h0]; omega))
    have HE := hid (show ((zig z : Nat) : Int) = 2 * z by unfold zig; rw [if_neg h0]; omega)
    generalize zig z = q at *
    rw [HE.out] at H
    clear hown
    go_enter Try.func122, Try.ntmps122
    go_wp2_with fail
    refine H.out.mono ?_
    rintro r w1 ⟨⟨v, rfl, hown1⟩, hb⟩
    have HB := hid hb
    have HO := hid hown1
    clear hb hown1
    go_wp2_with fail
    go_ret2
    exact ⟨⟨_, rfl, HO.out⟩, HB.out⟩

/-- the bytes of several numbers -/
def encs {α : Type} (f : α → List Nat) (zs : List α) : List Nat := (zs.map f).flatten
theorem encs_step {α : Type} {f : α → List Nat} {zs : List α} {k : Nat} (hk : k < zs.length) : encs f (zs.take (k + 1)) = encs f (zs.take k) ++ f zs[k] := by
  unfold encs
  rw [List.take_succ_eq_append_getElem hk, List.map_append, List.flatten_append]; simp
theorem encs_len {α : Type} {f : α → List Nat} {m : Nat} : ∀ (zs : List α), (∀ z ∈ zs, (f z).length ≤ m) → (encs f zs).length ≤ zs.length * m
  | [], _ => by simp [encs]
  | z :: zs, h => by
    have h1 := encs_len zs (fun y hy => h y (by simp [hy]))
    have h2 := h z (by simp)
    have h3 : encs f (z :: zs) = f z ++ encs f zs := rfl
    rw [h3, List.length_append, List.length_cons, Nat.succ_mul]; omega

theorem zig_len {z : Int} (h : -2305843009213693952 ≤ z ∧ z ≤ 2305843009213693951) : (encN (zig z)).length ≤ 9 := by
  refine encN_len 8 _ ?_
  unfold zig
  split <;> omega
theorem nat_len {z : Int} (h : 0 ≤ z ∧ z ≤ 4611686018427387903) : (encN z.toNat).length ≤ 9 := encN_len 8 _ (by omega)
def encU (z : Int) : List Nat := encN z.toNat
def encS (z : Int) : List Nat := encN (zig z)
set_option maxRecDepth 100000 in
theorem rNumbers_own {B lb lo lc m : Nat} {v0 : Value} {zs : List Int} {xs : List Nat} {w : World} (hown : OwnB w B v0 xs) (hB0 : B ≤ w.heap.size) (hn : xs.length ≤ 900000) (hz : ∀ z ∈ zs, 0 ≤ z ∧ z ≤ 4611686018427387903) (hm : zs.length = m) (hzl : m ≤ 10)
    (hl : ∀ i, i < m → w.cell? ⟨lb, lo + i, none⟩ = some (.int .i64 (zs.getD i 0))) (hlb : lb < w.heap.size) :
    Calls Try.prog 90 #[v0, .slice (some ⟨lb, lo, none⟩) m lc] w fun e w' => (∃ v, e = .returned v ∧ OwnB w' B v (xs ++ encs encU zs)) ∧ Below w.heap.size w w' := by
  have HO := hid hown
  have HZ := hid hz
  have HL := hid hl
  clear hown hz hl
  have HM := hid hm
  clear hm
  go_enter Try.func90, Try.ntmps90
  go_wp2_with fail
  go_loopw [0, 9] (fun v i wr => ∃ (k : Nat) (ys : List Nat), k ≤ m ∧ i = .int .i64 k ∧ ys = xs ++ encs encU (zs.take k) ∧ OwnB wr B v ys ∧ Below w.heap.size w wr) (fun _ i _ => m - (intOf i).toNat)
  case atStart => exact ⟨0, xs, by omega, rfl, by simp [encs], HO.out, Below.refl _ _⟩
  case round =>
    obtain ⟨k, ys, hk, rfl, he, hown2, hB⟩ := hrel
    have HB2 := hid hB
    have HO2 := hid hown2
    have HE := hid he
    by_cases hlt : k < m
    · have hkz : k < zs.length := by rw [HM.out]; exact hlt
      have hc : wr.cell? ⟨lb, lo + k, none⟩ = some (.int .i64 zs[k]) := by rw [hB.cell hlb, ← show zs.getD k 0 = zs[k] by simp [List.getD_eq_getElem?_getD, hkz]]; exact HL.out k hlt
      have hzk := HZ.out zs[k] (List.getElem_mem hkz)
      have hyb : ys.length ≤ 1000000 := by
        have h1 := encs_len (f := encU) (m := 9) (zs.take k) (fun z hz => nat_len (HZ.out z (List.mem_of_mem_take hz)))
        rw [he, List.length_append]
        have h2 : (zs.take k).length ≤ 10 := by simp; omega
        omega
      have HST := hid (show xs ++ encs encU (zs.take (k + 1)) = ys ++ encU zs[k] by rw [encs_step hkz, he]; simp)
      clear he hB hown2
      generalize zs[k] = z at *
      go_wp2_with fail
      obtain ⟨q, rfl⟩ : ∃ q : Nat, z = q := ⟨z.toNat, by omega⟩
      refine (rNumber_own (z := q) (HO2.out.base (Nat.zero_le _)) hyb (by omega)).mono ?_
      rintro r w1 ⟨⟨v, rfl, hown3⟩, hb⟩
      have HB3 := hid (HB2.out.trans (hb.mono HB2.out.size))
      have HO3 := hid (hown3.base (Nat.le_trans hB0 HB2.out.size))
      clear hb hown3
      go_wp2_with fail
      go_roundw
      case rel => exact ⟨k + 1, _, by omega, by go_num, HST.out.symm, HO3.out, HB3.out⟩
      case measure => simp [intOf]; omega
    · obtain rfl : k = m := by omega
      have HF := hid (show xs ++ encs encU zs = ys by rw [he, List.take_of_length_le (Nat.le_of_eq HM.out)])
      clear he hB hown2
      go_wp2_with fail
      go_ret
      rw [HF.out]
      exact ⟨⟨_, rfl, HO2.out⟩, HB2.out⟩
end Go.Proofs.Yteanlcefdoigcaa
