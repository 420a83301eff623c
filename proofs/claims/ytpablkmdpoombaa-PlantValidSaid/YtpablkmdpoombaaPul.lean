/- Pulses: their samples (84, 91) and whether they are valid (49, 58). -/
import Derived.Test.YtpablkmdpoombaaNvA
import Derived.Test.YtpablkmdpoombaaOrder
import Derived.BigFrame
namespace Go.Proofs.Ytpablkmdpoombaa
open Go.RowKit

theorem wpList_strip {P : Program} {ops : Array Oper} {Q : Exit → Act → World → Prop} {rest : List Oper} {o : Oper} {a : Act} {w : World} (hw : Region.wanted o (yielded ops a.tmps) = true)
    (h : wpList P ops Q ({ o with guard := none } :: rest) a w) : wpList P ops Q (o :: rest) a w := by
  have e : Region.wanted { o with guard := none } (yielded ops a.tmps) = true := by simp [Region.wanted]
  unfold wpList at h ⊢
  rw [if_pos e] at h
  rw [if_pos hw]
  cases o
  exact h
def smB (z : Int) : Bool := inB 0 1023 z
def sampB (l : List Int) : Bool := decide (l.length ≤ 256) && l.all smB
theorem all_next {p : Int → Bool} {C : List Int} {i : Nat} {z : Int} (hz : C[i]? = some z) (h1 : p z = true) (h : (C.take i).all p = true) : (C.take (i + 1)).all p = true := by
  rw [take_next hz, List.all_append, h]
  simp [h1]
theorem all_stop {p : Int → Bool} {C : List Int} {i : Nat} {z : Int} (hz : C[i]? = some z) (h1 : p z = false) : C.all p = false := by
  rw [List.all_eq_false]
  exact ⟨z, List.mem_of_getElem? hz, by simp [h1]⟩
theorem smB_lo {z : Int} (h : z < 0) : smB z = false := by simp [smB, inB]; omega
theorem smB_hi {z : Int} (h : 1023 < z) : smB z = false := by simp [smB, inB]; omega
theorem smB_ok {z : Int} (h : ¬ z < 0) (h2 : ¬ 1023 < z) : smB z = true := by simp [smB, inB]; omega
set_option maxRecDepth 100000 in
theorem xsampled_any (v : Value) (l : List Int) (w : World) (hv : IntsV w v l) (hm : l.length ≤ maxLen) :
    Calls Try.prog 84 #[v] w fun r w' => r = .returned (.bool (sampB l)) ∧ Below w.heap.size w w' := by
    obtain ⟨a, cap, rfl, hrow⟩ := hv
    have HROW := hid hrow
    obtain ⟨sv, hsv⟩ : ∃ sv, sv = sampB l := ⟨_, rfl⟩
    rw [← hsv]
    obtain ⟨n, hn⟩ : ∃ n, n = l.length := ⟨_, rfl⟩
    rw [← hn] at hm ⊢
    have hm' : n ≤ 9223372036854775807 := by unfold maxLen at hm; omega
    have HN := hid hn
    have HSV := hid hsv
    clear hrow hn hsv hm
    by_cases h256 : 256 < n
    · have d0 : decide ((256 : Int) < (n : Int)) = true := decide_eq_true (by omega)
      have HF := hid (show sv = false by rw [HSV.out]; unfold sampB; rw [decide_eq_false (by rw [← HN.out]; omega)]; rfl)
      go_enter Try.func84, Try.ntmps84
      go_wp2_with fail
      go_ret
      exact ⟨by rw [HF.out]; rfl, Below.refl _ _⟩
    have d0 : decide ((256 : Int) < (n : Int)) = false := decide_eq_false (by omega)
    replace h256 : n ≤ 256 := by omega
    have HT := hid (show sv = l.all smB by rw [HSV.out]; unfold sampB; rw [decide_eq_true (by rw [← HN.out]; exact h256)]; rfl)
    go_enter Try.func84, Try.ntmps84
    go_wp2_with fail
    go_loopw [10] (fun iv W => ∃ i : Nat, i ≤ n ∧ iv = .int .i64 (i : Int) ∧ (l.take i).all smB = true ∧ Below w.heap.size w W) (fun iv _ => n - (intOf iv).toNat)
    case atStart => exact ⟨0, by omega, rfl, rfl, Below.refl _ _⟩
    case round =>
      obtain ⟨i, hi, rfl, hall, hB⟩ := hrel
      have HALL := hid hall
      have HBwr := hid hB
      clear hall hB
      by_cases hlt : i < n
      · have d2 : decide ((i : Int) < (n : Int)) = true := decide_eq_true (by omega)
        obtain ⟨z, hz⟩ : ∃ z, l[i]? = some z := ⟨_, List.getElem?_eq_getElem (by rw [← HN.out]; exact hlt)⟩
        obtain ⟨b, off, rfl, hbw, hrows⟩ := HROW.out.resolve_left (fun h => by rw [h] at hz; simp at hz)
        have c0 : wr.cell? ⟨b, off + i, none⟩ = some (.int .i64 z) := ints_cell hrows hz HBwr.out hbw
        have HNX := hid (fun h => all_next (p := smB) hz h HALL.out)
        have HST := hid (fun h => show sv = false by rw [HT.out]; exact all_stop (p := smB) hz h)
        clear hrows hz
        by_cases h1 : z < 0
        · have e1 : decide (z < 0) = true := decide_eq_true h1
          have HF := hid (HST.out (smB_lo h1))
          go_wp2_with fail
          go_ret
          exact ⟨by rw [HF.out]; rfl, HBwr.out⟩
        have e1 : decide (z < 0) = false := decide_eq_false h1
        by_cases h2 : 1023 < z
        · have e2 : decide ((1023 : Int) < z) = true := decide_eq_true h2
          have HF := hid (HST.out (smB_hi h2))
          go_wp2_with fail
          go_ret
          exact ⟨by rw [HF.out]; rfl, HBwr.out⟩
        have e2 : decide ((1023 : Int) < z) = false := decide_eq_false h2
        have HX := hid (HNX.out (smB_ok h1 h2))
        go_wp2_with fail
        exact ⟨⟨i + 1, by omega, by go_num, HX.out, HBwr.out⟩, by simp [intOf]; omega⟩
      · obtain rfl : i = n := by omega
        have d2 : decide ((i : Int) < (i : Int)) = false := by simp
        have HF := hid (show sv = true by rw [HT.out]; have h9 := HALL.out; rw [List.take_of_length_le (by rw [← HN.out]; omega)] at h9; exact h9)
        go_wp2_with fail
        go_ret
        exact ⟨by rw [HF.out]; rfl, HBwr.out⟩
set_option maxRecDepth 100000 in
theorem rsampled_any (v : Value) (l : List Int) (w : World) (hv : IntsV w v l) (hm : l.length ≤ maxLen) :
    Calls Try.prog 91 #[v] w fun r w' => r = .returned (.bool (sampB l)) ∧ Below w.heap.size w w' := by
    obtain ⟨a, cap, rfl, hrow⟩ := hv
    have HROW := hid hrow
    obtain ⟨sv, hsv⟩ : ∃ sv, sv = sampB l := ⟨_, rfl⟩
    rw [← hsv]
    obtain ⟨n, hn⟩ : ∃ n, n = l.length := ⟨_, rfl⟩
    rw [← hn] at hm ⊢
    have hm' : n ≤ 9223372036854775807 := by unfold maxLen at hm; omega
    have HN := hid hn
    have HSV := hid hsv
    clear hrow hn hsv hm
    by_cases h256 : 256 < n
    · have d0 : decide ((256 : Int) < (n : Int)) = true := decide_eq_true (by omega)
      have HF := hid (show sv = false by rw [HSV.out]; unfold sampB; rw [decide_eq_false (by rw [← HN.out]; omega)]; rfl)
      go_enter Try.func91, Try.ntmps91
      go_wp2_with fail
      go_ret
      exact ⟨by rw [HF.out]; rfl, Below.refl _ _⟩
    have d0 : decide ((256 : Int) < (n : Int)) = false := decide_eq_false (by omega)
    replace h256 : n ≤ 256 := by omega
    have HT := hid (show sv = l.all smB by rw [HSV.out]; unfold sampB; rw [decide_eq_true (by rw [← HN.out]; exact h256)]; rfl)
    go_enter Try.func91, Try.ntmps91
    go_wp2_with fail
    go_loopw [3] (fun iv W => ∃ i : Nat, i ≤ n ∧ iv = .int .i64 (i : Int) ∧ (l.take i).all smB = true ∧ Below w.heap.size w W) (fun iv _ => n - (intOf iv).toNat)
    case atStart => exact ⟨0, by omega, rfl, rfl, Below.refl _ _⟩
    case round =>
      obtain ⟨i, hi, rfl, hall, hB⟩ := hrel
      have HALL := hid hall
      have HBwr := hid hB
      clear hall hB
      by_cases hlt : i < n
      · have d2 : decide ((i : Int) < (n : Int)) = true := decide_eq_true (by omega)
        obtain ⟨z, hz⟩ : ∃ z, l[i]? = some z := ⟨_, List.getElem?_eq_getElem (by rw [← HN.out]; exact hlt)⟩
        obtain ⟨b, off, rfl, hbw, hrows⟩ := HROW.out.resolve_left (fun h => by rw [h] at hz; simp at hz)
        have c0 : wr.cell? ⟨b, off + i, none⟩ = some (.int .i64 z) := ints_cell hrows hz HBwr.out hbw
        have HNX := hid (fun h => all_next (p := smB) hz h HALL.out)
        have HST := hid (fun h => show sv = false by rw [HT.out]; exact all_stop (p := smB) hz h)
        clear hrows hz
        by_cases h1 : z < 0
        · have e1 : decide (z < 0) = true := decide_eq_true h1
          have HF := hid (HST.out (smB_lo h1))
          go_wp2_with fail
          go_ret
          exact ⟨by rw [HF.out]; rfl, HBwr.out⟩
        have e1 : decide (z < 0) = false := decide_eq_false h1
        by_cases h2 : 1023 < z
        · have e2 : decide ((1023 : Int) < z) = true := decide_eq_true h2
          have HF := hid (HST.out (smB_hi h2))
          go_wp2_with fail
          go_ret
          exact ⟨by rw [HF.out]; rfl, HBwr.out⟩
        have e2 : decide ((1023 : Int) < z) = false := decide_eq_false h2
        have HX := hid (HNX.out (smB_ok h1 h2))
        go_wp2_with fail
        exact ⟨⟨i + 1, by omega, by go_num, HX.out, HBwr.out⟩, by simp [intOf]; omega⟩
      · obtain rfl : i = n := by omega
        have d2 : decide ((i : Int) < (i : Int)) = false := by simp
        have HF := hid (show sv = true by rw [HT.out]; have h9 := HALL.out; rw [List.take_of_length_le (by rw [← HN.out]; omega)] at h9; exact h9)
        go_wp2_with fail
        go_ret
        exact ⟨by rw [HF.out]; rfl, HBwr.out⟩
theorem pulsz35 : (Try.prog.info? 35).map (·.size) = some [Value.int .i64 0, Value.int .i64 0, Value.int .i64 0, Value.int .i64 0].length := by kernel_rfl
def pulB (t a b c d : Int) (S : List Int) : Bool := inB 0 1125899906842624 t && turnB 1000 a b c d && sampB S
theorem pulB_lo {t a b c d : Int} {S : List Int} (h : t < 0) : pulB t a b c d S = false := by simp [pulB, inB]; omega
theorem pulB_hi {t a b c d : Int} {S : List Int} (h : 1125899906842624 < t) : pulB t a b c d S = false := by simp [pulB, inB]; omega
theorem pulB_turn {t a b c d : Int} {S : List Int} (h : turnB 1000 a b c d = false) : pulB t a b c d S = false := by simp [pulB, h]
theorem pulB_samp {t a b c d : Int} {S : List Int} (h : sampB S = false) : pulB t a b c d S = false := by simp [pulB, h]
theorem pulB_ok {t a b c d : Int} {S : List Int} (h : ¬ t < 0) (h2 : ¬ 1125899906842624 < t) (h3 : turnB 1000 a b c d = true) (h4 : sampB S = true) : pulB t a b c d S = true := by simp [pulB, inB, h3, h4]; omega
theorem in1000_lo {z : Int} (h : z < -1000) : inB (-1000) 1000 z = false := by simp [inB]; omega
theorem in1000_hi {z : Int} (h : 1000 < z) : inB (-1000) 1000 z = false := by simp [inB]; omega
theorem in1000_ok {z : Int} (h : ¬ z < -1000) (h2 : ¬ 1000 < z) : inB (-1000) 1000 z = true := by simp [inB]; omega
theorem turn_stop {a b c d : Int} (h : [a, b, c, d].all (inB (-1000) 1000) = false) : turnB 1000 a b c d = false := turnB_no h
set_option maxRecDepth 100000 in
theorem xpulse_any (t a b c d : Int) (v : Value) (S : List Int) (w : World) (hv : IntsV w v S) (hm : S.length ≤ maxLen) :
    Calls Try.prog 49 #[.agg #[.int .i64 t, .int .i64 a, .int .i64 b, .int .i64 c, .int .i64 d, v]] w fun r w' => r = .returned (.bool (pulB t a b c d S)) ∧ Below w.heap.size w w' := by
  obtain ⟨pv, hpv⟩ : ∃ pv, pv = pulB t a b c d S := ⟨_, rfl⟩
  rw [← hpv]
  have HPV := hid hpv
  have HV := hid hv
  have HC := hid (fun W h => xsampled_any v S W h hm)
  obtain ⟨sa, sc, rfl, _⟩ := hv
  generalize S.length = n at *
  clear hpv hm
  by_cases h1 : t < 0
  · have e1 : decide (t < 0) = true := decide_eq_true h1
    have HF := hid (show pv = false by rw [HPV.out]; exact pulB_lo h1)
    go_enter Try.func49, Try.ntmps49
    go_wp2_with fail
    go_ret
    exact ⟨by rw [HF.out]; rfl, (Below.refl _ _).alloc (Nat.le_refl _) _⟩
  have e1 : decide (t < 0) = false := decide_eq_false h1
  by_cases h2 : 1125899906842624 < t
  · have e2 : decide ((1125899906842624 : Int) < t) = true := decide_eq_true h2
    have HF := hid (show pv = false by rw [HPV.out]; exact pulB_hi h2)
    go_enter Try.func49, Try.ntmps49
    go_wp2_with fail
    go_ret
    exact ⟨by rw [HF.out]; rfl, (Below.refl _ _).alloc (Nat.le_refl _) _⟩
  have e2 : decide ((1125899906842624 : Int) < t) = false := decide_eq_false h2
  have hq := eq22 a b c d 0 0 0 0
  cases hz : ([a, b, c, d] == [0, 0, 0, 0])
  case true =>
    rw [hz] at hq
    have HF := hid (show pv = false by rw [HPV.out]; exact pulB_turn (turnB_zero hz))
    clear hz
    go_enter Try.func49, Try.ntmps49
    go_wp2_with fail
    go_ret
    exact ⟨by rw [HF.out]; rfl, (Below.refl _ _).alloc (Nat.le_refl _) _⟩
  case false =>
    rw [hz] at hq
    have HT := hid (turnB_ok (l := 1000) hz)
    clear hz
    cases hs : sampB S
    · have HS := hid hs
      have HF := hid (show pv = false by rw [HPV.out]; exact pulB_samp hs)
      clear hs
      go_enter Try.func49, Try.ntmps49
      go_wp2_with fail
      refine (HC.out _ (HV.out.still ((Below.refl _ _).alloc (Nat.le_refl _) _))).mono ?_
      rintro r w1 ⟨rfl, hb⟩
      rw [HS.out]
      go_wp2_with fail
      go_ret
      exact ⟨by rw [HF.out]; rfl, ((Below.refl _ _).alloc (Nat.le_refl _) _).trans (hb.mono (by simp))⟩
    · have HS := hid hs
      have HOK := hid (fun h => show pv = true by rw [HPV.out]; exact pulB_ok h1 h2 (by rw [HT.out]; exact h) hs)
      have HNO := hid (fun h => show pv = false by rw [HPV.out]; exact pulB_turn (turn_stop h))
      clear hs
      go_enter Try.func49, Try.ntmps49
      go_wp2_with fail
      refine (HC.out _ (HV.out.still ((Below.refl _ _).alloc (Nat.le_refl _) _))).mono ?_
      rintro r w1 ⟨rfl, hb⟩
      rw [HS.out]
      have KP := hid (heap_still hb (heap_alloc_at w (.cells #[.int .i64 t, .int .i64 a, .int .i64 b, .int .i64 c, .int .i64 d, .slice sa n sc] 38) _ rfl))
      have HB1 := hid (((Below.refl w.heap.size w).alloc (Nat.le_refl _) (.cells #[.int .i64 t, .int .i64 a, .int .i64 b, .int .i64 c, .int .i64 d, .slice sa n sc] 38)).trans (hb.mono (by simp)))
      clear hb
      go_wp2_with (refine pt_load rfl 35 (.tmp 25) rfl w.heap.size 1 rfl [.int .i64 a, .int .i64 b, .int .i64 c, .int .i64 d] KP.out rfl Try.underlying35 rfl pulsz35 ?_)
      go_loopw [27] (fun iv W => ∃ k : Nat, k ≤ 4 ∧ iv = .int .i64 (k : Int) ∧ ([a, b, c, d].take k).all (inB (-1000) 1000) = true ∧ Below w.heap.size w W) (fun iv _ => 4 - (intOf iv).toNat)
      case atStart => exact ⟨0, by omega, rfl, rfl, HB1.out⟩
      case round =>
        obtain ⟨k, hk, rfl, hall, hB⟩ := hrel
        have HA := hid hall
        have HBwr := hid hB
        clear hall hB
        by_cases hlt : k < 4
        · have hix := index4 a b c d k hlt
          have HSN := hid (inB_step (zs := [a, b, c, d]) hlt HA.out)
          have HST := hid (@inB_stop [a, b, c, d] (inB (-1000) 1000) k hlt)
          generalize [a, b, c, d].getD k 0 = z at *
          by_cases h3 : z < -1000
          · have e3 : decide (z < -1000) = true := decide_eq_true h3
            have HF := hid (HNO.out (HST.out (in1000_lo h3)))
            go_wp2_with fail
            go_ret
            exact ⟨by rw [HF.out]; rfl, HBwr.out⟩
          have e3 : decide (z < -1000) = false := decide_eq_false h3
          by_cases h4 : 1000 < z
          · have e4 : decide ((1000 : Int) < z) = true := decide_eq_true h4
            have HF := hid (HNO.out (HST.out (in1000_hi h4)))
            go_wp2_with fail
            go_ret
            exact ⟨by rw [HF.out]; rfl, HBwr.out⟩
          have e4 : decide ((1000 : Int) < z) = false := decide_eq_false h4
          have HX := hid (HSN.out.trans (in1000_ok h3 h4))
          go_wp2_with fail
          exact ⟨⟨k + 1, by omega, by go_num, HX.out, HBwr.out⟩, by simp [intOf]; omega⟩
        · obtain rfl : k = 4 := by omega
          have HF := hid (HOK.out HA.out)
          go_wp2_with fail
          go_ret
          exact ⟨by rw [HF.out]; rfl, HBwr.out⟩
set_option maxRecDepth 100000 in
theorem rpulse_any (t a b c d : Int) (v : Value) (S : List Int) (w : World) (hv : IntsV w v S) (hm : S.length ≤ maxLen) :
    Calls Try.prog 58 #[.agg #[.int .i64 t, .int .i64 a, .int .i64 b, .int .i64 c, .int .i64 d, v]] w fun r w' => r = .returned (.bool (pulB t a b c d S)) ∧ Below w.heap.size w w' := by
  obtain ⟨pv, hpv⟩ : ∃ pv, pv = pulB t a b c d S := ⟨_, rfl⟩
  rw [← hpv]
  have HPV := hid hpv
  have HV := hid hv
  have HC := hid (fun W h => rsampled_any v S W h hm)
  obtain ⟨sa, sc, rfl, _⟩ := hv
  generalize S.length = n at *
  clear hpv hm
  have HNO := hid (fun h => show pv = false by rw [HPV.out]; exact pulB_turn (turn_stop h))
  go_enter Try.func58, Try.ntmps58
  go_wp2_with fail
  go_loopw [3, 4] (fun s iv W => ∃ (k : Nat) (sb : Bool), k ≤ 4 ∧ iv = .int .i64 (k : Int) ∧ s = .bool sb ∧ ([a, b, c, d].take k).all (inB (-1000) 1000) = true ∧ sb = ([a, b, c, d].take k).any nz ∧ Below w.heap.size w W ∧ W.heap[w.heap.size]? = some (.cells #[.int .i64 t, .int .i64 a, .int .i64 b, .int .i64 c, .int .i64 d, .slice sa n sc] 38)) (fun _ iv _ => 4 - (intOf iv).toNat)
  case atStart => exact ⟨0, false, by omega, rfl, rfl, rfl, rfl, (Below.refl _ _).alloc (Nat.le_refl _) _, heap_alloc_at _ _ _ rfl⟩
  case round =>
    obtain ⟨k, sb, hk, rfl, rfl, hall, hsb, hB, hkp⟩ := hrel
    have HA := hid hall
    have HSB := hid hsb
    have HBwr := hid hB
    have KP := hid hkp
    have hzwr := hB.size
    clear hall hB hkp hsb
    by_cases hlt : k < 4
    · have hz0 : wr.cell? ⟨w.heap.size, 1 + k, none⟩ = some (.int .i64 ([a, b, c, d].getD k 0)) := (cell_row (j := 1 + k) KP.out).trans (by match k, hlt with | 0, _ | 1, _ | 2, _ | 3, _ => rfl)
      have HSN := hid (inB_step (zs := [a, b, c, d]) hlt HA.out)
      have HST := hid (@inB_stop [a, b, c, d] (inB (-1000) 1000) k hlt)
      have HAN := hid (any_step (zs := [a, b, c, d]) (p := nz) hlt)
      generalize [a, b, c, d].getD k 0 = z at *
      by_cases h3 : z < -1000
      · have e3 : decide (z < -1000) = true := decide_eq_true h3
        have HF := hid (HNO.out (HST.out (in1000_lo h3)))
        go_wp2_with fail
        go_ret
        exact ⟨by rw [HF.out]; rfl, HBwr.out⟩
      have e3 : decide (z < -1000) = false := decide_eq_false h3
      by_cases h4 : 1000 < z
      · have e4 : decide ((1000 : Int) < z) = true := decide_eq_true h4
        have HF := hid (HNO.out (HST.out (in1000_hi h4)))
        go_wp2_with fail
        go_ret
        exact ⟨by rw [HF.out]; rfl, HBwr.out⟩
      have e4 : decide ((1000 : Int) < z) = false := decide_eq_false h4
      have HX := hid (HSN.out.trans (in1000_ok h3 h4))
      have HY := hid (show (([a, b, c, d].take (k + 1)).any nz) = (sb || nz z) by rw [HAN.out, ← HSB.out])
      cases sb
      · cases h5 : nz z
        · have e5 : (z != 0) = false := by simpa [nz, bne] using h5
          rw [h5] at HY
          clear h5
          go_wp2_with fail
          exact ⟨⟨k + 1, _, by omega, by go_num, rfl, HX.out, HY.out.symm, HBwr.out, KP.out⟩, by simp [intOf]; omega⟩
        · have e5 : (z != 0) = true := by simpa [nz, bne] using h5
          rw [h5] at HY
          clear h5
          go_wp2_with fail
          exact ⟨⟨k + 1, _, by omega, by go_num, rfl, HX.out, HY.out.symm, HBwr.out, KP.out⟩, by simp [intOf]; omega⟩
      · rw [Bool.true_or] at HY
        go_wp2_with fail
        exact ⟨⟨k + 1, _, by omega, by go_num, rfl, HX.out, HY.out.symm, HBwr.out, KP.out⟩, by simp [intOf]; omega⟩
    · obtain rfl : k = 4 := by omega
      have HT := hid (turnB_of HA.out HSB.out)
      have q0 : wr.cell? ⟨w.heap.size, 0, none⟩ = some (.int .i64 t) := (cell_row (j := 0) KP.out).trans rfl
      have q5 : wr.cell? ⟨w.heap.size, 5, none⟩ = some (.slice sa n sc) := (cell_row (j := 5) KP.out).trans rfl
      cases sb
      · have HF := hid (show pv = false by rw [HPV.out]; exact pulB_turn HT.out)
        go_wp2_with fail
        go_ret
        exact ⟨by rw [HF.out]; rfl, HBwr.out⟩
      by_cases h1 : t < 0
      · have e1 : decide ((0 : Int) ≤ t) = false := decide_eq_false (by omega)
        have HF := hid (show pv = false by rw [HPV.out]; exact pulB_lo h1)
        go_wp2_with fail
        go_ret
        exact ⟨by rw [HF.out]; rfl, HBwr.out⟩
      have e1 : decide ((0 : Int) ≤ t) = true := decide_eq_true (by omega)
      by_cases h2 : 1125899906842624 < t
      · have e2 : decide (t ≤ (1125899906842624 : Int)) = false := decide_eq_false (by omega)
        have HF := hid (show pv = false by rw [HPV.out]; exact pulB_hi h2)
        go_wp2_with fail
        go_ret
        exact ⟨by rw [HF.out]; rfl, HBwr.out⟩
      have e2 : decide (t ≤ (1125899906842624 : Int)) = true := decide_eq_true (by omega)
      have HS := hid (show pv = sampB S by rw [HPV.out]; cases hs : sampB S; exact pulB_samp hs; exact pulB_ok h1 h2 HT.out hs)
      go_wp2_with fail
      refine (HC.out _ (HV.out.still HBwr.out)).mono ?_
      rintro r w1 ⟨rfl, hb⟩
      go_wp2_with fail
      go_ret
      exact ⟨by rw [HS.out]; rfl, HBwr.out.trans (hb.mono hzwr)⟩
end Go.Proofs.Ytpablkmdpoombaa
