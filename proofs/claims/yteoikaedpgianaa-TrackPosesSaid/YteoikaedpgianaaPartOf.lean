/- The part of a track in which a time lies: the program's search and the reference's. -/
import Derived.Test.YteoikaedpgianaaTrack
import Derived.Test.YteoikaedpgianaaBox
import Derived.Lib.QuietBelow
namespace Go.Proofs.Yteoikaedpgianaa
open Go.RowKit

/-- the first of n that holds, or -1 -/
def firstN (q : Nat → Bool) : Nat → Int
  | 0 => -1
  | n + 1 => if 0 ≤ firstN q n then firstN q n else if q n = true then n else -1
theorem firstN_none {q : Nat → Bool} : ∀ {n : Nat}, allN (fun i => !q i) n = true → firstN q n = -1
  | 0, _ => rfl
  | n + 1, h => by
    have h2 := allN_iff.1 h n (by omega)
    have h3 : firstN q n = -1 := firstN_none (allN_iff.2 fun i hi => allN_iff.1 h i (by omega))
    unfold firstN
    rw [h3, if_neg (by decide), if_neg (by simpa using h2)]
theorem firstN_hit {q : Nat → Bool} {k : Nat} (hb : allN (fun i => !q i) k = true) (hk : q k = true) : ∀ {n : Nat}, k < n → firstN q n = k
  | n + 1, h => by
    unfold firstN
    by_cases he : k = n
    · subst he
      rw [firstN_none hb, if_neg (by decide), if_pos hk]
    · rw [firstN_hit hb hk (show k < n by omega), if_pos (by omega)]
theorem firstN_range (q : Nat → Bool) : ∀ n : Nat, firstN q n = -1 ∨ ∃ k : Nat, k < n ∧ firstN q n = k ∧ q k = true
  | 0 => Or.inl rfl
  | n + 1 => by
    unfold firstN
    rcases firstN_range q n with h | ⟨k, h1, h2, h3⟩
    · rw [h, if_neg (by decide)]
      by_cases hq : q n = true
      · rw [if_pos hq]; exact Or.inr ⟨n, by omega, rfl, hq⟩
      · rw [if_neg hq]; exact Or.inl rfl
    · rw [h2, if_pos (by omega)]; exact Or.inr ⟨k, by omega, rfl, h3⟩
/-- whether a time lies in a part -/
def inPart (L : Nat → Nat) (F : Nat → Nat → Nat → Int) (time : Int) (p : Nat) : Bool := decide (F p 0 0 ≤ time) && decide (time ≤ F p (L p - 1) 0)
/-- a track somewhere in memory, or none -/
def trackAny (w : World) (ad : Option Addr) (n : Nat) (A : Nat → Option Addr) (L C : Nat → Nat) (F : Nat → Nat → Nat → Int) : Prop :=
  0 < n → ∃ b off, ad = some ⟨b, off, none⟩ ∧ b < w.heap.size ∧ trackAt w b off n A L C F
theorem trackAt.still {w w' : World} {b off n : Nat} {A : Nat → Option Addr} {L C : Nat → Nat} {F : Nat → Nat → Nat → Int} (h : trackAt w b off n A L C F) (hb : Below w.heap.size w w') (hbw : b < w.heap.size) : trackAt w' b off n A L C F := by
  intro p hp
  obtain ⟨h1, h2⟩ := h p hp
  refine ⟨by rw [hb.cell hbw]; exact h1, fun hL => ?_⟩
  obtain ⟨b', o', h3, h4, h5⟩ := h2 hL
  exact ⟨b', o', h3, Nat.lt_of_lt_of_le h4 hb.size, h5.still hb h4⟩
theorem trackAny.still {w w' : World} {ad : Option Addr} {n : Nat} {A : Nat → Option Addr} {L C : Nat → Nat} {F : Nat → Nat → Nat → Int} (h : trackAny w ad n A L C F) (hb : Below w.heap.size w w') : trackAny w' ad n A L C F := by
  intro hn
  obtain ⟨b, off, h1, h2, h3⟩ := h hn
  exact ⟨b, off, h1, Nat.lt_of_lt_of_le h2 hb.size, h3.still hb h2⟩

set_option maxRecDepth 100000 in
set_option maxHeartbeats 1600000 in
theorem xPart_any (ad : Option Addr) (n c : Nat) (A : Nat → Option Addr) (L C : Nat → Nat) (F : Nat → Nat → Nat → Int) (time : Int) (w : World) (hn : n ≤ 9223372036854775807) (hL : ∀ p, L p ≤ 9223372036854775807)
    (ht : trackAny w ad n A L C F) (hpos : ∀ p, p < n → 0 < L p) :
    Calls Try.prog 111 #[.agg #[.slice ad n c], .int .i64 time] w fun e w' => e = .returned (.int .i64 (firstN (inPart L F time) n)) ∧ Below w.heap.size w w' := by
  have HT := hid ht
  have HP := hid hpos
  have HL := hid hL
  clear ht hpos hL
  have HBw := hid (Below.refl w.heap.size w)
  go_enter Try.func111, Try.ntmps111
  go_wp2_with fail
  go_loopw [10] (fun i W => ∃ (k : Nat), k ≤ n ∧ i = .int .i64 k ∧ allN (fun i => !inPart L F time i) k = true ∧ Below w.heap.size w W) (fun i _ => n - (intOf i).toNat)
  case atStart => exact ⟨0, by omega, rfl, rfl, by (repeat' (first | (with_reducible exact Below.refl _ _) | (with_reducible assumption) | (with_reducible refine Below.alloc ?_ ?_ _) | (with_reducible refine Below.drew ?_) | (with_reducible refine below_drewN ?_ _) | (with_reducible refine Below.setCell ?_ ?_ _) | (with_reducible refine below_setRow ?_ ?_ _) | go_size))⟩
  case round =>
    obtain ⟨k, hk, rfl, hall, hB⟩ := hrel
    have HBwr := hid hB
    have HA := hid hall
    by_cases hlt : k < n
    · obtain ⟨b, off, hadd, hbw, htr⟩ := HT.out (by omega)
      subst hadd
      obtain ⟨d0, hp⟩ := htr k hlt
      have hpk := HP.out k hlt
      obtain ⟨b', o', ha, hb', hrec⟩ := hp hpk
      have e0 : wr.cell? ⟨b, off + k, none⟩ = some (.slice (A k) (L k) (C k)) := by rw [hB.cell hbw]; exact d0
      rw [ha] at e0
      have z0 := hrec.still HBwr.out hb' 0 hpk 0 (by omega)
      have z1 := hrec.still HBwr.out hb' (L k - 1) (by omega) 0 (by omega)
      simp only [Nat.zero_mul, Nat.add_zero] at z0 z1
      have HI := hid (show ∀ x y, F k 0 0 = x → F k (L k - 1) 0 = y → inPart L F time k = (decide (x ≤ time) && decide (time ≤ y)) by rintro _ _ rfl rfl; rfl)
      have HLk := hid (HL.out k)
      have HN := hid (fun h : inPart L F time k = false => allN_next (p := fun i => !inPart L F time i) HA.out (by simp only [h]; rfl))
      have HX := hid (fun h : inPart L F time k = true => firstN_hit (q := inPart L F time) HA.out h hlt)
      clear hp hrec htr d0 hB hall ha
      obtain ⟨u, hu⟩ : ∃ u, L k = u + 1 := ⟨L k - 1, by omega⟩
      rw [hu, Nat.add_sub_cancel] at z1 HI
      rw [hu] at e0 HLk
      have hu9 := HLk.out
      have HI2 := hid (HI.out _ _ rfl rfl)
      clear HI hu
      generalize F k 0 0 = x at *
      generalize F k u 0 = y at *
      by_cases hx : x ≤ time
      · by_cases hy : time ≤ y
        · have HR := hid (HX.out (by rw [HI2.out]; simp; omega))
          have HBw1 := hid (show Below w.heap.size w wr from HBwr.out)
          go_wp2_with fail
          go_ret
          exact ⟨by rw [HR.out]; rfl, HBw1.out⟩
        · have HR := hid (HN.out (by rw [HI2.out]; simp; omega))
          have HBw1 := hid (show Below w.heap.size w wr from HBwr.out)
          have hy2 : y < time := by omega
          go_wp2_with fail
          go_roundw
          case rel => exact ⟨k + 1, by omega, by go_num, HR.out, HBw1.out⟩
          case measure => simp [intOf]; omega
      · have HR := hid (HN.out (by rw [HI2.out]; simp; omega))
        have HBw1 := hid (show Below w.heap.size w wr from HBwr.out)
        have hx2 : time < x := by omega
        go_wp2_with fail
        go_roundw
        case rel => exact ⟨k + 1, by omega, by go_num, HR.out, HBw1.out⟩
        case measure => simp [intOf]; omega
    · obtain rfl : k = n := by omega
      have HR := hid (firstN_none HA.out)
      clear hB hall
      go_wp2_with fail
      go_ret
      exact ⟨by rw [HR.out]; rfl, HBwr.out⟩
set_option maxRecDepth 100000 in
set_option maxHeartbeats 1600000 in
theorem rPart_any (ad : Option Addr) (n c : Nat) (A : Nat → Option Addr) (L C : Nat → Nat) (F : Nat → Nat → Nat → Int) (time : Int) (w : World) (hn : n ≤ 9223372036854775807) (hL : ∀ p, L p ≤ 9223372036854775807)
    (ht : trackAny w ad n A L C F) (hpos : ∀ p, p < n → 0 < L p) :
    Calls Try.prog 113 #[.agg #[.slice ad n c], .int .i64 time] w fun e w' => e = .returned (.int .i64 (firstN (inPart L F time) n)) ∧ Below w.heap.size w w' := by
  have HT := hid ht
  have HP := hid hpos
  have HL := hid hL
  clear ht hpos hL
  have HBw := hid (Below.refl w.heap.size w)
  go_enter Try.func113, Try.ntmps113
  go_wp2_with fail
  go_loopw [10] (fun i W => ∃ (k : Nat), k ≤ n ∧ i = .int .i64 k ∧ allN (fun i => !inPart L F time i) k = true ∧ Below w.heap.size w W) (fun i _ => n - (intOf i).toNat)
  case atStart => exact ⟨0, by omega, rfl, rfl, by (repeat' (first | (with_reducible exact Below.refl _ _) | (with_reducible assumption) | (with_reducible refine Below.alloc ?_ ?_ _) | (with_reducible refine Below.drew ?_) | (with_reducible refine below_drewN ?_ _) | (with_reducible refine Below.setCell ?_ ?_ _) | (with_reducible refine below_setRow ?_ ?_ _) | go_size))⟩
  case round =>
    obtain ⟨k, hk, rfl, hall, hB⟩ := hrel
    have HBwr := hid hB
    have HA := hid hall
    by_cases hlt : k < n
    · obtain ⟨b, off, hadd, hbw, htr⟩ := HT.out (by omega)
      subst hadd
      obtain ⟨d0, hp⟩ := htr k hlt
      have hpk := HP.out k hlt
      obtain ⟨b', o', ha, hb', hrec⟩ := hp hpk
      have e0 : wr.cell? ⟨b, off + k, none⟩ = some (.slice (A k) (L k) (C k)) := by rw [hB.cell hbw]; exact d0
      rw [ha] at e0
      have z0 := hrec.still HBwr.out hb' 0 hpk 0 (by omega)
      have z1 := hrec.still HBwr.out hb' (L k - 1) (by omega) 0 (by omega)
      simp only [Nat.zero_mul, Nat.add_zero] at z0 z1
      have HI := hid (show ∀ x y, F k 0 0 = x → F k (L k - 1) 0 = y → inPart L F time k = (decide (x ≤ time) && decide (time ≤ y)) by rintro _ _ rfl rfl; rfl)
      have HLk := hid (HL.out k)
      have HN := hid (fun h : inPart L F time k = false => allN_next (p := fun i => !inPart L F time i) HA.out (by simp only [h]; rfl))
      have HX := hid (fun h : inPart L F time k = true => firstN_hit (q := inPart L F time) HA.out h hlt)
      clear hp hrec htr d0 hB hall ha
      obtain ⟨u, hu⟩ : ∃ u, L k = u + 1 := ⟨L k - 1, by omega⟩
      rw [hu, Nat.add_sub_cancel] at z1 HI
      rw [hu] at e0 HLk
      have hu9 := HLk.out
      have HI2 := hid (HI.out _ _ rfl rfl)
      clear HI hu
      generalize F k 0 0 = x at *
      generalize F k u 0 = y at *
      by_cases hx : x ≤ time
      · by_cases hy : time ≤ y
        · have HR := hid (HX.out (by rw [HI2.out]; simp; omega))
          go_wp2_with fail
          have q0 := fun d os => cell_regrown z0 d os
          have q1 := fun d os => cell_regrown z1 d os
          clear z0 z1
          have HFM := hid (fun W => from_any x time y W)
          rw [show inB x y time = (decide (x ≤ time) && decide (time ≤ y)) from rfl, decide_eq_true hx, decide_eq_true hy] at HFM
          refine wp_region_quiet_below (by kernel_rfl) (by kernel_rfl) ?_
          repeat (first | go_big_quiet_step (first | (go_at_call 74; exact Calls.regrown_of ((HFM.out _).mono (fun r w' h => ⟨h.1, h.2 ▸ Below.refl _ _⟩)))) | quiet_step (first | (go_at_call 74; exact Calls.regrown_of ((HFM.out _).mono (fun r w' h => ⟨h.1, h.2 ▸ Below.refl _ _⟩)))))
          refine wpQuiet_nil ?_
          intro _ hww
          obtain ⟨⟨dq, osq⟩, hww'⟩ := hww
          subst hww'
          have HBw1 := hid (HBwr.out.trans ((below_regrown wr dq osq).mono HBwr.out.size))
          clear q0 q1
          go_wp2_with fail
          go_ret
          exact ⟨by rw [HR.out]; rfl, HBw1.out⟩
        · have HR := hid (HN.out (by rw [HI2.out]; simp; omega))
          go_wp2_with fail
          have q0 := fun d os => cell_regrown z0 d os
          have q1 := fun d os => cell_regrown z1 d os
          clear z0 z1
          have HFM := hid (fun W => from_any x time y W)
          rw [show inB x y time = (decide (x ≤ time) && decide (time ≤ y)) from rfl, decide_eq_true hx, decide_eq_false (show ¬ time ≤ y by omega)] at HFM
          refine wp_region_quiet_below (by kernel_rfl) (by kernel_rfl) ?_
          repeat (first | go_big_quiet_step (first | (go_at_call 74; exact Calls.regrown_of ((HFM.out _).mono (fun r w' h => ⟨h.1, h.2 ▸ Below.refl _ _⟩)))) | quiet_step (first | (go_at_call 74; exact Calls.regrown_of ((HFM.out _).mono (fun r w' h => ⟨h.1, h.2 ▸ Below.refl _ _⟩)))))
          refine wpQuiet_nil ?_
          intro _ hww
          obtain ⟨⟨dq, osq⟩, hww'⟩ := hww
          subst hww'
          have HBw1 := hid (HBwr.out.trans ((below_regrown wr dq osq).mono HBwr.out.size))
          clear q0 q1
          go_wp2_with fail
          go_roundw
          case rel => exact ⟨k + 1, by omega, by go_num, HR.out, HBw1.out⟩
          case measure => simp [intOf]; omega
      · have HR := hid (HN.out (by rw [HI2.out]; simp; omega))
        go_wp2_with fail
        have q0 := fun d os => cell_regrown z0 d os
        have q1 := fun d os => cell_regrown z1 d os
        clear z0 z1
        have HFM := hid (fun W => from_any x time y W)
        rw [show inB x y time = (decide (x ≤ time) && decide (time ≤ y)) from rfl, decide_eq_false (show ¬ x ≤ time by omega), Bool.false_and _] at HFM
        refine wp_region_quiet_below (by kernel_rfl) (by kernel_rfl) ?_
        repeat (first | go_big_quiet_step (first | (go_at_call 74; exact Calls.regrown_of ((HFM.out _).mono (fun r w' h => ⟨h.1, h.2 ▸ Below.refl _ _⟩)))) | quiet_step (first | (go_at_call 74; exact Calls.regrown_of ((HFM.out _).mono (fun r w' h => ⟨h.1, h.2 ▸ Below.refl _ _⟩)))))
        refine wpQuiet_nil ?_
        intro _ hww
        obtain ⟨⟨dq, osq⟩, hww'⟩ := hww
        subst hww'
        have HBw1 := hid (HBwr.out.trans ((below_regrown wr dq osq).mono HBwr.out.size))
        clear q0 q1
        go_wp2_with fail
        go_roundw
        case rel => exact ⟨k + 1, by omega, by go_num, HR.out, HBw1.out⟩
        case measure => simp [intOf]; omega
    · obtain rfl : k = n := by omega
      have HR := hid (firstN_none HA.out)
      clear hB hall
      go_wp2_with fail
      go_ret
      exact ⟨by rw [HR.out]; rfl, HBwr.out⟩
end Go.Proofs.Yteoikaedpgianaa
