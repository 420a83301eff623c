/- What the small tests of the track package and of its reference return: within, from, turns. -/
import Derived.Test.YteoikaedpgianaaRows
import Derived.Test.YteoikaedpgianaaRAid
namespace Go.Proofs.Yteoikaedpgianaa
open Go.RowKit

def inB (lo hi : Int) (z : Int) : Bool := decide (lo ≤ z) && decide (z ≤ hi)
theorem inB_step {zs : List Int} {p : Int → Bool} {k : Nat} (hk : k < zs.length) (h : (zs.take k).all p = true) : (zs.take (k + 1)).all p = p (zs.getD k 0) := by
  rw [List.take_succ_eq_append_getElem hk, List.all_append, h]
  simp [List.getD_eq_getElem?_getD, List.getElem?_eq_getElem hk]
theorem inB_stop {zs : List Int} {p : Int → Bool} {k : Nat} (hk : k < zs.length) (h : p (zs.getD k 0) = false) : zs.all p = false := by
  rw [List.all_eq_false]
  refine ⟨zs[k], List.getElem_mem hk, ?_⟩
  rw [List.getD_eq_getElem?_getD, List.getElem?_eq_getElem hk] at h
  simpa using h
theorem any_step {zs : List Int} {p : Int → Bool} {k : Nat} (hk : k < zs.length) : (zs.take (k + 1)).any p = ((zs.take k).any p || p (zs.getD k 0)) := by
  rw [List.take_succ_eq_append_getElem hk, List.any_append]
  simp [List.getD_eq_getElem?_getD, List.getElem?_eq_getElem hk]

theorem from_any (a b c : Int) (w : World) :
    Calls Try.prog 74 #[.int .i64 a, .int .i64 b, .int .i64 c] w fun e w' => e = .returned (.bool (inB a c b)) ∧ w = w' := by
  by_cases h1 : a ≤ b <;> by_cases h2 : b ≤ c
  all_goals
    go_enter Try.func74, Try.ntmps74
    go_wp2
    go_ret
    simp [inB, *]

set_option maxHeartbeats 400000 in
theorem within_any (lo hi : Int) (b off n c : Nat) (zs : List Int) (w : World) (hn : n = zs.length) (hm : n ≤ 4611686018427387904)
    (hc : ∀ i, i < n → w.cell? ⟨b, off + i, none⟩ = some (.int .i64 (zs.getD i 0))) :
    Calls Try.prog 72 #[.int .i64 lo, .int .i64 hi, .slice (some ⟨b, off, none⟩) n c] w fun e w' => e = .returned (.bool (zs.all (inB lo hi))) ∧ w = w' := by
  have HN := hid hn; clear hn
  go_enter Try.func72, Try.ntmps72
  go_wp2
  go_loop [11] (fun i => ∃ k : Nat, k ≤ n ∧ i = .int .i64 k ∧ (zs.take k).all (inB lo hi) = true) (fun i => n - (intOf i).toNat)
  case atStart => exact ⟨0, Nat.zero_le _, rfl, rfl⟩
  case round =>
    obtain ⟨k, hk, rfl, hall⟩ := hrel
    have HA := hid hall; clear hall
    by_cases hlt : k < n
    · have hcell := hc k hlt
      have hlt2 : k < zs.length := by rw [← HN.out]; exact hlt
      have hsn := hid (inB_step hlt2 HA.out)
      have hst := @inB_stop zs (inB lo hi) k hlt2
      have HST := hid hst
      clear hc hst hlt2
      generalize zs.getD k 0 = z at *
      by_cases h1 : z < lo
      · go_wp2
        go_ret
        refine ⟨?_, rfl⟩
        rw [HST.out (by simp [inB]; omega)]; rfl
      · by_cases h2 : hi < z
        · go_wp2
          go_ret
          refine ⟨?_, rfl⟩
          rw [HST.out (by simp [inB]; omega)]; rfl
        · go_wp2
          go_round
          case rel => exact ⟨k + 1, by omega, by go_num, by rw [hsn.out]; simp [inB]; omega⟩
          case measure => simp [intOf]; omega
    · clear hc
      go_wp2
      go_ret
      refine ⟨?_, rfl⟩
      have h1 := HN.out
      have h2 := HA.out
      rw [List.take_of_length_le (by omega)] at h2
      rw [h2]; rfl

/-- not all are 0 -/
def nz (z : Int) : Bool := !(z == 0)

theorem index4_0 (a b c d : Int) (w : World) : (Instr.index 22 (.agg #[.int .i64 a, .int .i64 b, .int .i64 c, .int .i64 d]) (.int .i64 0)).run Try.prog w = .ok (.int .i64 a) w := by kernel_rfl
theorem index4_1 (a b c d : Int) (w : World) : (Instr.index 22 (.agg #[.int .i64 a, .int .i64 b, .int .i64 c, .int .i64 d]) (.int .i64 1)).run Try.prog w = .ok (.int .i64 b) w := by kernel_rfl
theorem index4_2 (a b c d : Int) (w : World) : (Instr.index 22 (.agg #[.int .i64 a, .int .i64 b, .int .i64 c, .int .i64 d]) (.int .i64 2)).run Try.prog w = .ok (.int .i64 c) w := by kernel_rfl
theorem index4_3 (a b c d : Int) (w : World) : (Instr.index 22 (.agg #[.int .i64 a, .int .i64 b, .int .i64 c, .int .i64 d]) (.int .i64 3)).run Try.prog w = .ok (.int .i64 d) w := by kernel_rfl
theorem index4 (a b c d : Int) (k : Nat) (hk : k < 4) (w : World) :
    (Instr.index 22 (.agg #[.int .i64 a, .int .i64 b, .int .i64 c, .int .i64 d]) (.int .i64 (k : Int))).run Try.prog w = .ok (.int .i64 ([a, b, c, d].getD k 0)) w := by
  match k, hk with
  | 0, _ => exact index4_0 a b c d w
  | 1, _ => exact index4_1 a b c d w
  | 2, _ => exact index4_2 a b c d w
  | 3, _ => exact index4_3 a b c d w

/-- the elements are within the limit, and not all are 0 -/
def turnB (l a b c d : Int) : Bool := [a, b, c, d].all (inB (-l) l) && [a, b, c, d].any nz
theorem turnB_no {l a b c d : Int} (h : [a, b, c, d].all (inB (-l) l) = false) : turnB l a b c d = false := by unfold turnB; rw [h]; rfl
theorem turnB_of {l a b c d : Int} {sb : Bool} (h : ([a, b, c, d].take 4).all (inB (-l) l) = true) (hs : sb = ([a, b, c, d].take 4).any nz) : turnB l a b c d = sb := by
  unfold turnB; simp only [List.take_succ_cons, List.take_zero] at h hs; rw [h, ← hs]; rfl

set_option maxHeartbeats 400000 in
theorem turns_any (l a b c d : Int) (hl : 0 ≤ l ∧ l ≤ 1000000000) (w : World) :
    Calls Try.prog 77 #[.agg #[.int .i64 a, .int .i64 b, .int .i64 c, .int .i64 d], .int .i64 l] w
      fun e w' => e = .returned (.bool (turnB l a b c d)) ∧ Below w.heap.size w w' := by
  go_enter Try.func77, Try.ntmps77
  go_wp2
  go_loop [5, 9] (fun s i => ∃ (k : Nat) (sb : Bool), k ≤ 4 ∧ i = .int .i64 k ∧ s = .bool sb ∧ ([a, b, c, d].take k).all (inB (-l) l) = true ∧ sb = ([a, b, c, d].take k).any nz) (fun _ i => 4 - (intOf i).toNat)
  case atStart => exact ⟨0, false, by omega, rfl, rfl, rfl, rfl⟩
  case round =>
    obtain ⟨k, sb, hk, rfl, rfl, hall, hsb⟩ := hrel
    have HA := hid hall; clear hall
    have HS := hid hsb; clear hsb
    by_cases hlt : k < 4
    · have hix := index4 a b c d k hlt
      have hsn := hid (inB_step (zs := [a, b, c, d]) hlt HA.out)
      have HST := hid (@inB_stop [a, b, c, d] (inB (-l) l) k hlt)
      have HAN := hid (any_step (zs := [a, b, c, d]) (p := nz) hlt)
      generalize [a, b, c, d].getD k 0 = z at *
      by_cases h1 : inB (-l) l z = true
      · have h1' := hid h1; clear h1
        cases sb
        · by_cases hz : z = 0
          · have hz' := hid hz; clear hz
            have hzz : (z != 0) = false := by simp [hz'.out]
            go_wp2_with (go_at_call 74; refine (from_any _ _ _ _).mono ?_; rintro e w' ⟨rfl, rfl⟩; rw [h1'.out])
            go_round
            case rel => exact ⟨k + 1, false, by omega, by go_num, rfl, by rw [hsn.out]; exact h1'.out, by rw [HAN.out, ← HS.out, hz'.out]; rfl⟩
            case measure => simp [intOf]; omega
          · have hzz : (z != 0) = true := by simp [hz]
            have hz' := hid hz; clear hz
            go_wp2_with (go_at_call 74; refine (from_any _ _ _ _).mono ?_; rintro e w' ⟨rfl, rfl⟩; rw [h1'.out])
            go_round
            case rel => exact ⟨k + 1, true, by omega, by go_num, rfl, by rw [hsn.out]; exact h1'.out, by rw [HAN.out, ← HS.out]; simp [nz, hz'.out]⟩
            case measure => simp [intOf]; omega
        · go_wp2_with (go_at_call 74; refine (from_any _ _ _ _).mono ?_; rintro e w' ⟨rfl, rfl⟩; rw [h1'.out])
          go_round
          case rel => exact ⟨k + 1, true, by omega, by go_num, rfl, by rw [hsn.out]; exact h1'.out, by rw [HAN.out, ← HS.out]; rfl⟩
          case measure => simp [intOf]; omega
      · have h1' := hid (Bool.eq_false_iff.2 h1)
        clear h1
        go_wp2_with (go_at_call 74; refine (from_any _ _ _ _).mono ?_; rintro e w' ⟨rfl, rfl⟩; rw [h1'.out])
        go_ret
        refine ⟨by rw [turnB_no (HST.out h1'.out)]; rfl, ?_⟩
        (repeat' (first | (with_reducible exact Below.refl _ _) | (with_reducible assumption) | (with_reducible refine Below.alloc ?_ ?_ _) | (with_reducible refine Below.drew ?_) | (with_reducible refine below_drewN ?_ _) | (with_reducible refine Below.setCell ?_ ?_ _) | (with_reducible refine below_setRow ?_ ?_ _) | go_size))
    · have : k = 4 := by omega
      subst this
      go_wp2
      go_ret
      refine ⟨?_, ?_⟩
      · rw [turnB_of HA.out HS.out]; rfl
      · (repeat' (first | (with_reducible exact Below.refl _ _) | (with_reducible assumption) | (with_reducible refine Below.alloc ?_ ?_ _) | (with_reducible refine Below.drew ?_) | (with_reducible refine below_drewN ?_ _) | (with_reducible refine Below.setCell ?_ ?_ _) | (with_reducible refine below_setRow ?_ ?_ _) | go_size))
end Go.Proofs.Yteoikaedpgianaa
