/- TrackClocks: for every row of at most 40 syncs the program's clocks and its reference's are the same, and so are the spans of times that they give; for more than 40 the law answers by itself. Every input, no condition. -/
import Derived.Test.YteoikaedpgianaaClock0
import Derived.Test.YteoikaedpgianaaClockR
import Derived.Test.YteoikaedpgianaaLift
namespace Go.Proofs.Yteoikaedpgianaa
open Go.ChangeShapes Go.WideShapes Go.ChangeAt Go.RowKit

def navL (l : List Syn) (scan : Int) : Int × Int × Int := navV (fun i => (l.getD i (0, 0, 0)).1) (fun i => (l.getD i (0, 0, 0)).2.1) (fun i => (l.getD i (0, 0, 0)).2.2) l.length scan
theorem navL_nil (scan : Int) : navL [] scan = (0, 0, 45) := rfl
theorem RowsL.recs {W : World} {g t : Nat} {l : List Syn} (h : RowsL W g t l) : recs3 W g 0 l.length (fun i => (l.getD i (0, 0, 0)).1) (fun i => (l.getD i (0, 0, 0)).2.1) (fun i => (l.getD i (0, 0, 0)).2.2) := by
  intro i hi
  have e : l.getD i (0, 0, 0) = l[i] := by simp [List.getD, hi]
  obtain ⟨a, b, c⟩ := h.cell (List.getElem?_eq_getElem hi)
  refine ⟨?_, ?_, ?_⟩
  · show _ = some (Value.int .i64 (l.getD i (0, 0, 0)).1)
    rw [Nat.zero_add, a, e]
  · show _ = some (Value.int .i64 (l.getD i (0, 0, 0)).2.1)
    rw [Nat.zero_add, b, e]
  · show _ = some (Value.int .i64 (l.getD i (0, 0, 0)).2.2)
    rw [Nat.zero_add, c, e]
theorem nav_own (base : Nat) (v : Value) (l : List Syn) (scan : Int) (W : World) (hl : l.length ≤ 40) (h : OwnL W base 99 v l) :
    Calls Try.prog 34 #[v, .int .i64 scan] W fun e w' => e = .returned (nav3 (navL l scan)) ∧ Below W.heap.size W w' := by
  rcases Nat.eq_zero_or_pos l.length with h0 | h0
  · obtain ⟨a1, c1, e1⟩ := h.slice
    rw [h0] at e1
    obtain rfl := List.eq_nil_of_length_eq_zero h0
    subst e1
    exact nav_none scan a1 c1 W
  · obtain ⟨g1, cap1, cur1, e1, _, hc1, hr1, _, _, _⟩ := h.rows h0
    subst e1
    exact nav_any scan g1 0 l.length cap1 _ _ _ W h0 hl (Array.getElem?_eq_some_iff.1 hc1).1 (RowsL.recs ⟨cur1, hc1, hr1⟩)
theorem rnav_own (base : Nat) (v : Value) (l : List Syn) (scan : Int) (W : World) (hl : l.length ≤ 40) (h : OwnL W base 99 v l) :
    Calls Try.prog 35 #[v, .int .i64 scan] W fun e w' => e = .returned (nav3 (navL l scan)) ∧ Below W.heap.size W w' := by
  rcases Nat.eq_zero_or_pos l.length with h0 | h0
  · obtain ⟨a1, c1, e1⟩ := h.slice
    rw [h0] at e1
    obtain rfl := List.eq_nil_of_length_eq_zero h0
    subst e1
    exact rnav_none scan a1 c1 W
  · obtain ⟨g1, cap1, cur1, e1, _, hc1, hr1, _, _, _⟩ := h.rows h0
    subst e1
    exact rnav_any scan g1 0 l.length cap1 _ _ _ W h0 hl (Array.getElem?_eq_some_iff.1 hc1).1 (RowsL.recs ⟨cur1, hc1, hr1⟩)
/-- a result of Clocks -/
def ClkR (P : Int → List Syn → Prop) (W : World) (r : Ending) (w' : World) : Prop := (∃ v l e, r = .returned (.tuple #[v, .int .i64 e]) ∧ OwnL w' W.heap.size 99 v l ∧ P e l) ∧ Below W.heap.size W w'
set_option maxRecDepth 100000 in
theorem clocks_law (P : Int → List Syn → Prop) (one : ∀ {e e' l l'}, P e l → P e' l' → e = e' ∧ l = l') (len : ∀ {e l}, P e l → l.length ≤ 40) (a : Option Addr) (n c : Nat) (scan : Int) (w : World)
    (h57 : n ≤ 40 → ∀ W, Below w.heap.size w W → Calls Try.prog 57 #[.slice a n c] W (ClkR P W)) (h60 : n ≤ 40 → ∀ W, Below w.heap.size w W → Calls Try.prog 60 #[.slice a n c] W (ClkR P W)) :
    Calls Try.prog 15 #[.slice a n c, .int .i64 scan] w fun r w' => r = .returned (.bool true) ∧ Below w.heap.size w w' := by
  by_cases hn : n ≤ 40
  · have H57 := hid (h57 hn)
    have H60 := hid (h60 hn)
    clear h57 h60
    go_enter Try.func15, Try.ntmps15
    go_wp2_with fail
    refine (H57.out _ (by (repeat' (first | (with_reducible exact Below.refl _ _) | (with_reducible assumption) | (with_reducible refine Below.alloc ?_ ?_ _) | (with_reducible refine Below.drew ?_) | (with_reducible refine below_drewN ?_ _) | (with_reducible refine Below.setCell ?_ ?_ _) | (with_reducible refine below_setRow ?_ ?_ _) | go_size)))).mono ?_
    rintro r w1 ⟨⟨v1, l1, e1, rfl, ho1, hp1⟩, hb1⟩
    have HO1 := hid ho1
    have HP1 := hid hp1
    have HB1 := hid hb1
    clear ho1 hp1 hb1
    go_wp2_with fail
    refine (H60.out _ HB1.out).mono ?_
    rintro r w2 ⟨⟨v2, l2, e2, rfl, ho2, hp2⟩, hb2⟩
    obtain ⟨rfl, rfl⟩ := one HP1.out hp2
    have HL := hid (len HP1.out)
    have HO1 := hid (HO1.out.grow hb2)
    have HO2 := hid ho2
    have HB2 := hid (HB1.out.trans (hb2.mono HB1.out.size))
    clear ho2 hp2 hb2 HP1 HB1 one len
    have HSA := hid (same_any _ _ v1 v2 l1 w2 HL.out HO1.out HO2.out)
    go_wp2_with (go_at_call 61; refine HSA.out.mono ?_; rintro r w3 ⟨rfl, hb3⟩)
    have HO1 := hid (HO1.out.grow hb3)
    have HO2 := hid (HO2.out.grow hb3)
    have HB3 := hid (HB2.out.trans (hb3.mono HB2.out.size))
    clear hb3 HB2 HSA
    obtain ⟨x0, hx0⟩ : ∃ x, x = navL l1 scan := ⟨_, rfl⟩
    obtain ⟨xl, xh, xe⟩ := x0
    have HX0 := hid hx0
    clear hx0
    have HN1 := hid (show Calls Try.prog 34 #[v1, .int .i64 scan] w3 fun e w' => e = .returned (.tuple #[.agg #[.int .i64 xl, .int .i64 xh], .int .i64 xe]) ∧ Below w3.heap.size w3 w' by have h := nav_own _ v1 l1 scan w3 HL.out HO1.out; rw [← HX0.out] at h; exact h)
    have q1 := eq44 xl xh xl xh
    rw [beq_self_eq_true] at q1
    go_wp2_with (go_at_call 34; refine HN1.out.mono ?_; rintro r w4 ⟨rfl, hb4⟩)
    have hz4 := hb4.size
    have HN2 := hid (show Calls Try.prog 35 #[v2, .int .i64 scan] (w4.alloc (.cells #[.int .i64 xl, .int .i64 xh] 44)) fun e w' => e = .returned (.tuple #[.agg #[.int .i64 xl, .int .i64 xh], .int .i64 xe]) ∧ Below (w4.heap.size + 1) (w4.alloc (.cells #[.int .i64 xl, .int .i64 xh] 44)) w' by
      have h := rnav_own _ v2 l1 scan (w4.alloc (.cells #[.int .i64 xl, .int .i64 xh] 44)) HL.out ((HO2.out.grow hb4).grow ((Below.refl _ _).alloc (Nat.le_refl _) _))
      rw [← HX0.out] at h
      exact h.mono (fun e w' h => ⟨h.1, by simpa using h.2⟩))
    have HB4 := hid (HB3.out.trans (hb4.mono HB3.out.size))
    clear hb4 HN1 HO1 HO2 HB3
    go_wp2_with fail
    refine HN2.out.mono ?_
    rintro r w5 ⟨rfl, hb5⟩
    have G1 := hid (heap_still (by simpa using hb5) (heap_alloc_at w4 (.cells #[.int .i64 xl, .int .i64 xh] 44) _ rfl) : w5.heap[w4.heap.size]? = some (.cells #[.int .i64 xl, .int .i64 xh] 44))
    have hz5 := hb5.size
    simp at hz5
    have hzB := HB4.out.size
    have HB5 := hid (show Below w.heap.size w w5 from (HB4.out.alloc hzB _).trans (hb5.mono (by omega)))
    have g1 : ∀ o, (w5.alloc o).cell? ⟨w4.heap.size, 0, none⟩ = some (.int .i64 xl) := fun o => (cell_row (j := 0) (heap_alloc_past _ o _ _ G1.out)).trans rfl
    have g2 : ∀ o, (w5.alloc o).cell? ⟨w4.heap.size, 1, none⟩ = some (.int .i64 xh) := fun o => (cell_row (j := 1) (heap_alloc_past _ o _ _ G1.out)).trans rfl
    have hz6 : w4.heap.size < w5.heap.size := by omega
    clear hb5 HN2 HB4
    have HAW := hid (awake_any (w5.alloc (.cells #[.int .i64 xl, .int .i64 xh] 44)))
    go_wp2_with (go_at_call 24; refine HAW.out.mono ?_; rintro r w6 ⟨rfl, hb6⟩)
    go_ret
    exact ⟨rfl, (HB5.out.alloc (by omega) _).trans (hb6.mono (by simp; omega))⟩
  · clear h57 h60
    go_enter Try.func15, Try.ntmps15
    go_wp2_with fail
    refine (awake_any _).mono ?_
    rintro r w3 ⟨rfl, hb3⟩
    go_wp2_with fail
    go_ret
    exact ⟨rfl, hb3⟩
theorem flat57 : flatOf Try.prog 10 57 = some [some .i64, some .i64, some .i64] := by kernel_rfl
theorem xClocks_all (b off n c : Nat) (f lo hi : Nat → Int) (w : World) (hn0 : 0 < n) (hn : n ≤ 40) (hbw : b < w.heap.size) (hr : recs3 w b off n f lo hi) :
    Calls Try.prog 57 #[.slice (some ⟨b, off, none⟩) n c] w (ClkR (clkOut f lo hi n) w) := by
  refine (xClocks_any b off n c f lo hi w hn0 hn hbw hr).mono ?_
  rintro r w' ⟨⟨h1, h2⟩ | ⟨h1, v, z, h2, h3, h4⟩, hb⟩
  · exact ⟨⟨_, [], 41, h2, OwnL.nil _ _ _, Or.inl ⟨h1, rfl, rfl⟩⟩, hb⟩
  · exact ⟨⟨v, clocksOf z, 0, h3, h4, Or.inr ⟨h1, rfl, z, h2, rfl⟩⟩, hb⟩
theorem rClocks_all (b off n c : Nat) (f lo hi : Nat → Int) (w : World) (hn0 : 0 < n) (hn : n ≤ 40) (hbw : b < w.heap.size) (hr : recs3 w b off n f lo hi) :
    Calls Try.prog 60 #[.slice (some ⟨b, off, none⟩) n c] w (ClkR (clkOut f lo hi n) w) := by
  refine (rClocks_any b off n c f lo hi w hn0 hn hbw hr).mono ?_
  rintro r w' ⟨⟨h1, h2⟩ | ⟨h1, v, z, h2, h3, h4⟩, hb⟩
  · exact ⟨⟨_, [], 41, h2, OwnL.nil _ _ _, Or.inl ⟨h1, rfl, rfl⟩⟩, hb⟩
  · exact ⟨⟨v, clocksOf z, 0, h3, h4, Or.inr ⟨h1, rfl, z, h2, rfl⟩⟩, hb⟩
theorem clkOut_nil : clkOut (fun _ => 0) (fun _ => 0) (fun _ => 0) 0 0 [] := Or.inr ⟨rfl, rfl, [], ⟨up_nil, Same.refl _⟩, rfl⟩
theorem xClocks_zero (a : Option Addr) (c : Nat) (w : World) : Calls Try.prog 57 #[.slice a 0 c] w (ClkR (clkOut (fun _ => 0) (fun _ => 0) (fun _ => 0) 0) w) :=
  (xClocks_none a c w).mono fun _ _ h => ⟨⟨_, [], 0, h.1, OwnL.nil _ _ _, clkOut_nil⟩, h.2⟩
theorem rClocks_zero (a : Option Addr) (c : Nat) (w : World) : Calls Try.prog 60 #[.slice a 0 c] w (ClkR (clkOut (fun _ => 0) (fun _ => 0) (fun _ => 0) 0) w) :=
  (rClocks_none a c w).mono fun _ _ h => ⟨⟨_, [], 0, h.1, OwnL.nil _ _ _, clkOut_nil⟩, h.2⟩
theorem own : ownKnob Try.prog.godebug = none := by kernel_rfl
theorem laid : laidOutB Try.prog = true := by kernel_rfl

set_option maxRecDepth 100000 in
theorem trackClocks_lifted (os : Os) (started : os.Started) (H : Type) (enc : TypeId × Value → H) :
    ReturnsInHanded {} Try.checked os 15 .any (Rows.trackClocksSpec.pre6 enc Try.prog Try.f15 Rows.trackClocksRow.domain false) (Rows.trackClocksSpec.post enc Try.prog Try.f15 false true false false) := by
  refine law_lifted (C := Try.checked) (tb := 4) own started (by kernel_rfl) Try.func15 rfl ?_ (show Try.f15.resultTypes = #[4] by kernel_rfl) Try.underlying4 laid ?_
    (ChangeSpec.witness6 (enc := enc) (C := Try.checked) false ⟨#[], #[.slice none 0 0, .int .i64 0], []⟩ 8 (by kernel_rfl) (by kernel_rfl) (by kernel_rfl) (by kernel_rfl)) ?_
  · intro ds hds
    match ds, hds with
    | [d1, d2], _ => exact ⟨rfl, rfl, rfl⟩
  · rw [Try.params15]
    intro t ht
    simp at ht
    rcases ht with rfl | rfl
    all_goals exact ⟨by kernel_rfl, of_decide_eq_true (by kernel_rfl)⟩
  · intro W base args ds p hval hA hlt _
    change DataW.TrodAll enc Try.prog W 0 (fun _ => true) true Try.f15.params.toList args.toList ds p at hA
    change ∀ (j : Nat) t v, Try.f15.params[j]? = some t → args[j]? = some v → Value.okWide Try.prog W .any base t v at hval
    rw [Try.params15] at hA hval
    obtain ⟨v0, vs0, d0, ds0, p0, q0, hargs, rfl, rfl, h0, r0⟩ := trodAll_cons hA
    obtain ⟨v1, vs1, d1, ds1, p1, q1, rfl, rfl, rfl, h1, r1⟩ := trodAll_cons r0
    obtain ⟨rfl, rfl, rfl⟩ := trodAll_nil r1
    obtain rfl : args = #[v0, v1] := by cases args; simp_all
    obtain ⟨scan, rfl⟩ := okWide_int Try.underlying3 (hval 1 3 v1 rfl rfl)
    rcases open_rows Try.underlying95 flat57 size57s (by decide) (hval 0 95 v0 rfl rfl) h0 with rfl | ⟨a, c, rfl⟩ | ⟨b, off, n, c, rfl, hn, hc, hm, hr⟩
    · exact clocks_law _ (fun h g => h.one g) (fun h => Nat.le_trans h.length (by decide)) none 0 0 scan W (fun _ W' _ => xClocks_zero none 0 W') (fun _ W' _ => rClocks_zero none 0 W')
    · exact clocks_law _ (fun h g => h.one g) (fun h => Nat.le_trans h.length (by decide)) (some a) 0 c scan W (fun _ W' _ => xClocks_zero _ c W') (fun _ W' _ => rClocks_zero _ c W')
    · obtain ⟨f, lo, hi, hr⟩ := rows3 hr
      have hbw := cell_lt (hr 0 hn).1
      by_cases h40 : n ≤ 40
      · exact clocks_law _ (fun h g => h.one g) (fun h => Nat.le_trans h.length h40) _ n c scan W (fun h40 W' hb => xClocks_all b off n c f lo hi W' hn h40 (Nat.lt_of_lt_of_le hbw hb.size) (hr.still hb hbw))
          (fun h40 W' hb => rClocks_all b off n c f lo hi W' hn h40 (Nat.lt_of_lt_of_le hbw hb.size) (hr.still hb hbw))
      · exact clocks_law (fun _ l => False) (fun h _ => h.elim) (fun h => h.elim) _ n c scan W (fun h => absurd h h40) (fun h => absurd h h40)

/-- TrackClocks, whatever the input. -/
theorem trackClocks_holds : Rows.TrackClocksSaid :=
  OpenClaim.holds_of_wide 15 Try.f15 rfl rfl rfl rfl rfl rfl rfl ⟨rfl, rfl, rfl, rfl, rfl⟩ rfl rfl rfl rfl rfl (by kernel_rfl) Try.func15 (by kernel_rfl)
    (of_decide_eq_true (by kernel_rfl)) (by unfold Func.isWrapper; rw [if_neg (of_decide_eq_false (by kernel_rfl))]; exact ⟨rfl, rfl⟩)
    (fun os started H enc _ => trackClocks_lifted os started H enc)
#print axioms trackClocks_holds
end Go.Proofs.Yteoikaedpgianaa
