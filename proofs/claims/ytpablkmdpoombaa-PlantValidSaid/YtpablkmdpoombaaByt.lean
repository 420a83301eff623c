/- Slices of bytes in the plant: slices.Clone, slices.Equal, the checksum appended; which points are good; points sorted by Id. -/
import Derived.Test.YtpablkmdpoombaaDelM
namespace Go.Proofs.Ytpablkmdpoombaa
open Go.RowKit Go.Sort

theorem four_at {w : World} {c : Nat} {z1 z2 z3 z4 : Int} (h : z1 = (c / 16777216 % 256 : Nat) ∧ z2 = (c / 65536 % 256 : Nat) ∧ z3 = (c / 256 % 256 : Nat) ∧ z4 = (c % 256 : Nat)) :
    ∀ (j : Nat) (u : Value), (u8s (bytes4 c))[j]? = some u → (w.alloc (.cells #[.int .u8 z1, .int .u8 z2, .int .u8 z3, .int .u8 z4] 5)).cell? ((⟨w.heap.size, 0, none⟩ : Addr).add j) = some u := by
  obtain ⟨rfl, rfl, rfl, rfl⟩ := h
  intro j u hj
  have ha : ((⟨w.heap.size, 0, none⟩ : Addr).add j) = ⟨w.heap.size, j, none⟩ := by simp [Addr.add]; exact fun h => h.symm
  rw [ha, cell_row (heap_alloc_at _ _ _ rfl), ← hj]
  simp [u8s, bytes4]
theorem bytes_add {w : World} {b off : Nat} {l : List Nat} (h : bytesAt w b off l.length (fun i => l.getD i 0)) : ∀ (j : Nat) (u : Value), (u8s l)[j]? = some u → w.cell? ((⟨b, off, none⟩ : Addr).add j) = some u := by
  intro j u hj
  have ha : ((⟨b, off, none⟩ : Addr).add j) = ⟨b, off + j, none⟩ := by simp [Addr.add]
  have hl : j < l.length := by
    have := (List.getElem?_eq_some_iff.1 hj).1
    simpa [u8s] using this
  rw [ha, h j hl, ← hj]
  simp only [u8s, List.getElem?_map]
  rw [List.getD_eq_getElem?_getD, List.getElem?_eq_getElem hl]
  rfl
set_option maxRecDepth 100000 in
/-- slices.Clone at bytes, of a slice that is not nil -/
theorem bclone_any (b off n c : Nat) (l : List Nat) (w : World) (hn : l.length = n) (hx : n ≤ 900000) (hbw : b < w.heap.size) (hb : bytesAt w b off l.length (fun i => l.getD i 0)) :
    Calls Try.prog 43 #[.slice (some ⟨b, off, none⟩) n c] w fun r w' => (∃ v, r = .returned v ∧ w'.ownsRow w.heap.size 5 1 v n (u8s l)) ∧ Below w.heap.size w w' := by
  have HC := hid (bytes_add (bytes_still hb hbw ((Below.refl w.heap.size w).alloc (Nat.le_refl _) (.cells #[] 5))))
  obtain ⟨i0, hi, hz0, hz1, hz2⟩ := info_parts info5
  have HI := hid hi
  have HZ0 := hid hz0
  have HZ1 := hid hz1
  have HZ2 := hid hz2
  have HLEN := hid (show (u8s l).length = n * 1 by simp [u8s, hn])
  have HL2 := hid hn
  clear hi hz0 hz1 hz2 hb hn
  have heq := fun w => Lib.run_eql_slice_nil (P := Try.prog) w 24 5 (some ⟨b, off, none⟩) n c 0 0 Try.underlying24
  have HOWN := hid (show (w.alloc (.cells #[] 5)).ownsRow w.heap.size 5 1 (.slice (some ⟨w.heap.size, 0, none⟩) 0 0) 0 [] from ⟨rfl, Or.inr ⟨_, 0, #[], rfl, Nat.le_refl _, heap_alloc_at _ _ _ rfl, Nat.le_refl _, by simp, rfl, rfl⟩⟩)
  go_enter Try.func43, Try.ntmps43
  go_wp2_with (at_builtin; (refine wpList_append_own _ rfl (.tmp 5) (.tmp 6) 24 rfl w.heap.size 5 i0 (.int .u8 0) 1 1 Try.underlying24 HI.out HZ0.out HZ1.out HZ2.out rfl (by decide) _ 0 [] rfl HOWN.out ⟨b, off, none⟩ n c (u8s l) rfl HLEN.out HC.out (u8s_one _) (by unfold maxLen; omega) (by omega) (by simp) ?_); intro v' w1 hown hgrow hnil)
  go_ret
  refine ⟨⟨_, rfl, ?_⟩, ((Below.refl w.heap.size w).alloc (Nat.le_refl _) _).grown hgrow (by simp) (fun k hk => by injection hk with hk; subst hk; exact Nat.le_refl _)⟩
  simpa using hown
theorem row_cases {w : World} {B n : Nat} {v : Value} {xs : List Nat} (h : w.ownsRow B 5 1 v n (u8s xs)) : xs.length = n ∧ ((v = .slice none 0 0 ∧ n = 0) ∨ ∃ g cap, v = .slice (some ⟨g, 0, none⟩) n cap ∧ B ≤ g ∧ n ≤ cap ∧ cap ≤ 9223372036854775807 ∧ g < w.heap.size ∧ bytesAt w g 0 n (fun i => xs.getD i 0)) := by
  have hl : xs.length = n := by have := h.1; simpa [u8s] using this
  refine ⟨hl, ?_⟩
  have hc := h
  rcases h.2 with h2 | ⟨g, cap, cur, hv, hg, hr, hn, hm, _⟩
  · exact Or.inl h2
  · subst hv
    refine Or.inr ⟨g, cap, rfl, hg, hn, by unfold maxLen at hm; omega, (Array.getElem?_eq_some_iff.1 hr).1, ?_⟩
    rw [← hl] at hc ⊢
    exact u8s_cells hc
set_option maxRecDepth 100000 in
theorem xSum_none (p0 : Option Addr) (c : Nat) (w : World) : Calls Try.prog 73 #[.slice p0 0 c] w fun r w' => r = .returned (.int .u32 (crcL [] : Nat)) ∧ w = w' := by
  have HE := hid (show (crcL [] : Nat) = 0 by kernel_rfl)
  go_enter Try.func73, Try.ntmps73
  go_wp2_with fail
  refine wp_loop_rounds 1 ?_
  rw [rounds_succ]
  go_wp2_with fail
  go_ret
  exact ⟨by rw [HE.out]; rfl, rfl⟩
set_option maxRecDepth 100000 in
set_option maxHeartbeats 800000 in
/-- the checksum appended -/
theorem checked_own (B n : Nat) (v : Value) (xs : List Nat) (w : World) (ho : w.ownsRow B 5 1 v n (u8s xs)) (hB : B ≤ w.heap.size) (hx : n ≤ 900000) (hg : ∀ x ∈ xs, x < 256) :
    Calls Try.prog 37 #[v] w fun e w' => (∃ v', e = .returned v' ∧ OwnB w' B v' (xs ++ bytes4 (crcL xs))) ∧ Below B w w' := by
  have HO := hid ho
  obtain ⟨hl, hcs⟩ := row_cases ho
  have HS := hid (show Calls Try.prog 73 #[v] w fun r w' => r = .returned (.int .u32 (crcL xs : Nat)) ∧ w = w' by
    rcases hcs with ⟨rfl, h0⟩ | ⟨g, cap, rfl, hg', hn, hm, hgw, hby⟩
    · have hnil : xs = [] := List.length_eq_zero_iff.1 (by omega)
      subst hnil
      exact xSum_none none 0 w
    · have h := xSum_any g 0 n cap (fun i => xs.getD i 0) w (by omega) (getD_byte hg) hby
      have e : crcL xs = crcV (fun i => xs.getD i 0) n := by rw [← hl]; rfl
      rw [e]
      exact h)
  have HCB := hid (crcL_lt xs)
  obtain ⟨p0, cap, rfl, hpb⟩ : ∃ p0 cap, v = .slice p0 n cap ∧ (∀ k, (Value.slice p0 n cap).ownBlock = some k → B ≤ k) := by
    rcases hcs with ⟨rfl, h0⟩ | ⟨g, cap, rfl, hg', _⟩
    · subst h0; exact ⟨none, 0, rfl, fun k h => by simp [Value.ownBlock] at h⟩
    · exact ⟨some ⟨g, 0, none⟩, cap, rfl, fun k h => by have h1 : g = k := Option.some.inj h; omega⟩
  obtain ⟨i0, hi, hz0, hz1, hz2⟩ := info_parts info5
  have HI := hid hi
  have HZ0 := hid hz0
  have HZ1 := hid hz1
  have HZ2 := hid hz2
  have HNX := hid hl
  have HPB := hid hpb
  generalize crcL xs = c at *
  have hcb := HCB.out
  clear hl hcs hg ho hi hz0 hz1 hz2 hpb
  go_enter Try.func37, Try.ntmps37
  go_wp2_with fail
  refine HS.out.mono ?_
  rintro r w1 ⟨rfl, rfl⟩
  go_wp2_with (first | (at_builtin; (refine wpList_append_own _ rfl (.tmp 6) (.tmp 18) 24 rfl B 5 i0 (.int .u8 0) 1 1 Try.underlying24 HI.out HZ0.out HZ1.out HZ2.out rfl (by decide) _ n (u8s xs) rfl (HO.out.alloc _) ⟨w.heap.size, 0, none⟩ 4 4 (u8s (bytes4 c)) rfl rfl (four_at (by omega)) (u8s_one _) (by unfold maxLen; omega) (by omega) (by simp; omega) ?_; intro v' w2 hown2 hgrow2 hnil2; have HO2 := hid (own4 (c := c) hown2 HNX.out); have HB2 := hid ((show Below B w _ from ((Below.refl B w).alloc hB _)).grown hgrow2 (by simp; omega) HPB.out); clear hown2 hgrow2 hnil2)))
  go_ret
  exact ⟨⟨_, rfl, HO2.out⟩, HB2.out⟩
/-- slices.Equal at bytes -/
def BytesV (w : World) (v : Value) (l : List Nat) : Prop := ∃ a c, v = .slice a l.length c ∧ (l = [] ∨ ∃ b off, a = some ⟨b, off, none⟩ ∧ b < w.heap.size ∧ bytesAt w b off l.length (fun i => l.getD i 0))
theorem BytesV.still {w W : World} {v : Value} {l : List Nat} (h : BytesV w v l) (hB : Below w.heap.size w W) : BytesV W v l := by
  obtain ⟨a, c, h1, h2⟩ := h
  refine ⟨a, c, h1, ?_⟩
  rcases h2 with h2 | ⟨b, off, h3, h4, h5⟩
  · exact Or.inl h2
  · exact Or.inr ⟨b, off, h3, Nat.lt_of_lt_of_le h4 hB.size, bytes_still h5 h4 hB⟩
theorem row_bytes {w : World} {B n : Nat} {v : Value} {xs : List Nat} (h : w.ownsRow B 5 1 v n (u8s xs)) : BytesV w v xs := by
  obtain ⟨hl, hc⟩ := row_cases h
  subst hl
  rcases hc with ⟨rfl, h0⟩ | ⟨g, cap, rfl, _, _, _, hgw, hby⟩
  · exact ⟨none, 0, by rw [h0], Or.inl (List.length_eq_zero_iff.1 h0)⟩
  · exact ⟨_, _, rfl, Or.inr ⟨g, 0, rfl, hgw, hby⟩⟩
theorem OwnB.bytes {w : World} {B : Nat} {v : Value} {xs : List Nat} (h : OwnB w B v xs) : BytesV w v xs := row_bytes h.1
theorem getD_next {l m : List Nat} {k : Nat} (hl : l.length = m.length) (hs : l.take k = m.take k) (h : l.getD k 0 = m.getD k 0) (hk : k < l.length) : l.take (k + 1) = m.take (k + 1) := by
  rw [List.take_succ_eq_append_getElem hk, List.take_succ_eq_append_getElem (by omega), hs]
  rw [List.getD_eq_getElem?_getD, List.getD_eq_getElem?_getD, List.getElem?_eq_getElem hk, List.getElem?_eq_getElem (by omega)] at h
  congr 2
set_option maxRecDepth 100000 in
set_option maxHeartbeats 1600000 in
theorem bequal_any (v1 v2 : Value) (l m : List Nat) (w : World) (h1 : BytesV w v1 l) (h2 : BytesV w v2 m) (hn : l.length ≤ 9223372036854775807) :
    Calls Try.prog 42 #[v1, v2] w fun r w' => r = .returned (.bool (decide (l = m))) ∧ Below w.heap.size w w' := by
  obtain ⟨q, hq⟩ : ∃ q, q = decide (l = m) := ⟨_, rfl⟩
  rw [← hq]
  have HYES := hid (fun h : l = m => show q = true by rw [hq]; exact decide_eq_true h)
  have HNO := hid (fun h : l ≠ m => show q = false by rw [hq]; exact decide_eq_false h)
  obtain ⟨a1, c1, rfl, hr1⟩ := h1
  obtain ⟨a2, c2, rfl, hr2⟩ := h2
  obtain ⟨n1, hn1⟩ : ∃ n, n = l.length := ⟨_, rfl⟩
  obtain ⟨n2, hn2⟩ : ∃ n, n = m.length := ⟨_, rfl⟩
  rw [← hn1] at hn ⊢
  rw [← hn2]
  have HL := hid hn1
  have HM := hid hn2
  have H1 := hid hr1
  have H2 := hid hr2
  clear hq hn1 hn2 hr1 hr2
  by_cases hnn : n1 = n2
  · subst hnn
    go_enter Try.func42, Try.ntmps42
    go_wp2_with fail
    go_loopw [13] (fun iv W => ∃ k : Nat, k ≤ n1 ∧ iv = .int .i64 (k : Int) ∧ l.take k = m.take k ∧ Below w.heap.size w W) (fun iv _ => n1 - (intOf iv).toNat)
    case atStart => exact ⟨0, by omega, rfl, rfl, Below.refl _ _⟩
    case round =>
      obtain ⟨k, hk, rfl, hsame, hB⟩ := hrel
      have HS := hid hsame
      have HBW := hid hB
      have hzw := hB.size
      clear hsame hB
      by_cases hlt : k < n1
      · have hkl : k < l.length := by rw [← HL.out]; exact hlt
        have hkm : k < m.length := by rw [← HM.out]; exact hlt
        obtain ⟨b1, o1, rfl, hb1, hy1⟩ := H1.out.resolve_left (fun h => by rw [h] at hkl; simp at hkl)
        obtain ⟨b2, o2, rfl, hb2, hy2⟩ := H2.out.resolve_left (fun h => by rw [h] at hkm; simp at hkm)
        obtain ⟨x, hx⟩ : ∃ x, x = l.getD k 0 := ⟨_, rfl⟩
        obtain ⟨y, hy⟩ : ∃ y, y = m.getD k 0 := ⟨_, rfl⟩
        have hc1 : wr.cell? ⟨b1, o1 + k, none⟩ = some (.int .u8 (x : Nat)) := by rw [HBW.out.cell hb1, hy1 k hkl, hx]
        have hc2 : wr.cell? ⟨b2, o2 + k, none⟩ = some (.int .u8 (y : Nat)) := by rw [HBW.out.cell hb2, hy2 k hkm, hy]
        have HE := hid (fun h : x = y => getD_next (by rw [← HL.out, ← HM.out]) HS.out (by rw [← hx, ← hy]; exact h) hkl)
        have HF := hid (fun h : x ≠ y => HNO.out (fun e => h (by rw [hx, hy, e])))
        have d3 : decide ((k : Int) < (n1 : Int)) = true := decide_eq_true (by omega)
        have hk0 : (0 : Int) ≤ (k : Int) := by omega
        have a0 := fun d os => cell_regrown hc1 d os
        have b0 := fun d os => cell_regrown hc2 d os
        clear hx hy hy1 hy2 hkl hkm hb1 hb2 hc1 hc2
        by_cases hxy : x = y
        · have HX := hid (HE.out hxy)
          have d4 : ((x : Int) == (y : Int)) = true := by simp [hxy]
          clear hxy HE HF
          go_wp2_with fail
          refine wp_region_quiet_below (by kernel_rfl) (by kernel_rfl) ?_
          repeat (first | go_big_quiet_step (fail) | quiet_step (fail))
          refine wpQuiet_nil ?_
          intro _ hw'
          obtain ⟨⟨dqV, osV⟩, hw2⟩ := hw'
          subst hw2
          have HQV := hid (below_regrown wr dqV osV)
          generalize Sort.grow (redrawn wr dqV) osV = V at HQV ⊢
          have hsV := HQV.out.size
          have HB3 := hid (HBW.out.trans (HQV.out.mono hzw))
          clear a0 b0
          go_wp2_with fail
          exact ⟨⟨k + 1, by omega, by go_num, HX.out, HB3.out⟩, by simp [intOf]; omega⟩
        · have HX := hid (HF.out hxy)
          have d4 : ((x : Int) == (y : Int)) = false := beq_false_of_ne (fun e => hxy (by omega))
          clear hxy HE HF
          go_wp2_with fail
          refine wp_region_quiet_below (by kernel_rfl) (by kernel_rfl) ?_
          repeat (first | go_big_quiet_step (fail) | quiet_step (fail))
          refine wpQuiet_nil ?_
          intro _ hw'
          obtain ⟨⟨dqV, osV⟩, hw2⟩ := hw'
          subst hw2
          have HQV := hid (below_regrown wr dqV osV)
          generalize Sort.grow (redrawn wr dqV) osV = V at HQV ⊢
          have hsV := HQV.out.size
          have HB3 := hid (HBW.out.trans (HQV.out.mono hzw))
          clear a0 b0
          go_wp2_with fail
          go_ret
          exact ⟨by rw [HX.out]; rfl, HB3.out⟩
      · obtain rfl : k = n1 := by omega
        have HX := hid (HYES.out (by
          have h := HS.out
          rw [List.take_of_length_le (by rw [← HL.out]; exact Nat.le_refl _), List.take_of_length_le (by rw [← HM.out]; exact Nat.le_refl _)] at h
          exact h))
        have d3 : decide ((k : Int) < (k : Int)) = false := by simp
        go_wp2_with fail
        go_ret
        exact ⟨by rw [HX.out]; rfl, HBW.out⟩
  · have d0 : ((n1 : Int) == (n2 : Int)) = false := beq_false_of_ne (by omega)
    have HF := hid (HNO.out (fun h => hnn (by rw [HL.out, HM.out, h])))
    clear hnn
    go_enter Try.func42, Try.ntmps42
    go_wp2_with fail
    go_ret
    exact ⟨by rw [HF.out]; rfl, Below.refl _ _⟩

/- goods: the classes and label.Valid -/
theorem in_any (a b c : Int) (w : World) :
    Calls Try.prog 48 #[.int .i64 a, .int .i64 b, .int .i64 c] w fun e w' => e = .returned (.bool (inB b c a)) ∧ w = w' := by
  by_cases h1 : b ≤ a <;> by_cases h2 : a ≤ c
  all_goals
    go_enter Try.func48, Try.ntmps48
    go_wp2
    go_ret
    simp [inB, *]
set_option maxRecDepth 100000 in
set_option maxHeartbeats 1600000 in
theorem goods_some (b off n c : Nat) (F : Nat → Nat → Int) (w : World) (hn0 : 0 < n) (hnm : n ≤ maxLen) (hbw : b < w.heap.size) (hr : recs9 w b off n F) :
    Calls Try.prog 29 #[.slice (some ⟨b, off, none⟩) n c] w fun r w' => r = .returned (.bool (goodV F n)) ∧ Below w.heap.size w w' := by
  have HC := hid hr
  clear hr
  have hnm' : n ≤ 9223372036854775807 := by unfold maxLen at hnm; omega
  clear hnm
  go_enter Try.func29, Try.ntmps29
  go_wp2_with fail
  go_loopw [7] (fun iv W => ∃ k : Nat, k ≤ n ∧ iv = .int .i64 (k : Int) ∧ allN (clsB F) k = true ∧ Below w.heap.size w W) (fun iv _ => n - (intOf iv).toNat)
  case atStart => exact ⟨0, by omega, rfl, rfl, Below.refl _ _⟩
  case round =>
    obtain ⟨k, hk, rfl, hall, hB⟩ := hrel
    have HBwr := hid hB
    have hzwr := hB.size
    have HA := hid hall
    clear hall
    by_cases hlt : k < n
    · have hcs := HC.out.still hB hbw k hlt
      have c0 := hcs 0 (by decide)
      have c1 := hcs 1 (by decide)
      have c2 := hcs 2 (by decide)
      have c3 := hcs 3 (by decide)
      have c4 := hcs 4 (by decide)
      have c5 := hcs 5 (by decide)
      have c6 := hcs 6 (by decide)
      have c7 := hcs 7 (by decide)
      have c8 := hcs 8 (by decide)
      rw [Nat.add_zero] at c0
      have HBAD := hid (fun h : inB 0 255 (F k 8) = false => show goodV F n = false by unfold goodV; rw [allN_stop hlt (by unfold clsB; exact h)]; rfl)
      have HYES := hid (fun h : inB 0 255 (F k 8) = true => allN_next HA.out (show clsB F k = true by unfold clsB; exact h))
      clear hB hcs
      generalize F k 0 = p0 at *
      generalize F k 1 = p1 at *
      generalize F k 2 = p2 at *
      generalize F k 3 = p3 at *
      generalize F k 4 = p4 at *
      generalize F k 5 = p5 at *
      generalize F k 6 = p6 at *
      generalize F k 7 = p7 at *
      generalize F k 8 = p8 at *
      cases hq : inB 0 255 p8
      · have HX := hid (HBAD.out hq)
        go_wp2_with fail
        refine (in_any _ _ _ _).mono ?_
        rintro r w1 ⟨rfl, rfl⟩
        rw [hq]
        go_wp2_with fail
        go_ret
        exact ⟨by rw [HX.out]; rfl, HBwr.out.alloc hzwr _⟩
      · have HX := hid (HYES.out hq)
        go_wp2_with fail
        refine (in_any _ _ _ _).mono ?_
        rintro r w1 ⟨rfl, rfl⟩
        rw [hq]
        go_wp2_with fail
        exact ⟨⟨k + 1, by omega, by go_num, HX.out, HBwr.out.alloc hzwr _⟩, by simp [intOf]; omega⟩
    · obtain rfl : k = n := by omega
      have HV := hid (show goodV F k = validV F k by unfold goodV; rw [HA.out]; rfl)
      have HRC := hid (HC.out.still hB hbw)
      clear hB
      go_wp2_with fail
      refine (valid_any b off k c F wr hn0 (by omega) HRC.out).mono ?_
      rintro r w1 ⟨rfl, hb⟩
      go_wp2_with fail
      go_ret
      exact ⟨by rw [HV.out]; rfl, HBwr.out.trans (hb.mono hzwr)⟩
theorem goods_none (a : Option Addr) (c : Nat) (w : World) :
    Calls Try.prog 29 #[.slice a 0 c] w fun r w' => r = .returned (.bool true) ∧ Below w.heap.size w w' := by
  go_enter Try.func29, Try.ntmps29
  go_wp2_with fail
  refine wp_loop_rounds 1 ?_
  rw [rounds_succ]
  go_wp2_with fail
  refine (valid_none _ _ _).mono ?_
  rintro r w1 ⟨rfl, hb⟩
  go_wp2_with fail
  go_ret
  exact ⟨rfl, hb⟩
theorem goods_any (pv : Value) (S : List Pt) (w : World) (hp : PtsV w pv S) (hn : S.length ≤ maxLen) : Calls Try.prog 29 #[pv] w fun r w' => r = .returned (.bool (goodL S)) ∧ Below w.heap.size w w' := by
  obtain ⟨a, cap, rfl, h⟩ := hp
  by_cases hl : S = []
  · subst hl
    exact goods_none a cap w
  · obtain ⟨b, off, rfl, hb, hr⟩ := h.resolve_left hl
    exact goods_some b off S.length cap _ w (List.length_pos_iff.2 hl) hn hb (rows_recs hr)
/- the points sorted by Id -/
set_option maxRecDepth 100000 in
theorem pbyId_any (p q : Pt) (W : World) : Calls Try.prog 32 #[.agg p.row.toArray, .agg q.row.toArray] W fun e w' => e = .returned (.int .i64 (cmpI p q)) ∧ Grew W w' := by
  have HV := hid (show cmpI p q = wrap64 (p.id - q.id) from rfl)
  unfold Pt.row
  generalize p.id = a at *
  generalize q.id = b at *
  go_enter Try.func32, Try.ntmps32
  go_wp2_with fail
  go_ret
  exact ⟨by rw [HV.out]; rfl, (by repeat' (first | exact Grew.refl _ | refine Grew.alloc ?_ _ | refine Grew.drewN ?_ _))⟩
theorem psortId_any (v : Value) (l : List Pt) (base : Nat) (W : World) (h : OwnR W base 78 9 v (l.map Pt.row)) (hn : l.length < 4611686018427387904) (hid : ∀ p ∈ l, 0 ≤ p.id ∧ p.id ≤ 1152921504606846976) :
    Calls Try.prog 31 #[v, .func (.func 32) #[] #[]] W fun e w' => e = .returned (.tuple #[]) ∧ ∃ l' : List Pt, l'.Perm l ∧ l'.Pairwise (fun p q => ¬ q.id < p.id) ∧ OwnR w' base 78 9 v (l'.map Pt.row) ∧ W.grownBy w' v.ownBlock := by
  obtain ⟨lg, hlg⟩ : ∃ lg : List PtG, lg.map (·.1) = l := ⟨_, pmap_val l hid⟩
  subst hlg
  rw [List.length_map] at hn
  have h' : OwnR W base 78 9 v (lg.map (fun p : PtG => p.1.row)) := by rw [List.map_map] at h; exact h
  have hc := sort_own sortPtL 9 Try.isAgg78 Try.sizeOf78 (fun p : PtG => p.1.row) (fun _ => rfl) (fun p => Pt.row_one p.1) (fun x y : PtG => cmpI x.1 y.1) cmpI_swo 32 #[] (enters_of Try.func32 (by kernel_rfl) rfl) (fun _ _ _ _ _ _ _ x y => pbyId_any x.1 y.1 _) W base 78 v lg h' hn
  refine Calls.mono (show Calls Try.prog 31 _ _ _ from hc) ?_
  rintro e w' ⟨rfl, l', h1, h2, h3, h4⟩
  refine ⟨rfl, l'.map (·.1), h1.map _, ?_, by rw [List.map_map]; exact h3, h4⟩
  rw [List.pairwise_map]
  refine h2.imp ?_
  intro a b hab
  rw [cmpI_lt] at hab
  simpa using hab
end Go.Proofs.Ytpablkmdpoombaa
