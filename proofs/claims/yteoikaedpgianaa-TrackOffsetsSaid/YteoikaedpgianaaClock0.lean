/- The clocks of no syncs; the comparison of two lists of clocks. -/
import Derived.Test.YteoikaedpgianaaClockX
namespace Go.Proofs.Yteoikaedpgianaa
open Go.RowKit

set_option maxRecDepth 100000 in
theorem insSort_none (a : Option Addr) (c : Nat) (w : World) :
    Calls Try.prog 162 #[.slice a 0 c, .int .i64 0, .int .i64 0, .func (.func 108) #[] #[]] w fun r w' => r = .returned (.tuple #[]) ∧ w' = w := by
  go_enter Try.func162, Try.ntmps162
  go_wp2_with fail
  refine wp_loop_rounds 1 ?_
  rw [rounds_succ]
  go_wp2_with fail
  go_end0
  exact ⟨rfl, rfl⟩
set_option maxRecDepth 100000 in
theorem stable_none (a : Option Addr) (c : Nat) (w : World) :
    Calls Try.prog 150 #[.slice a 0 c, .int .i64 0, .func (.func 108) #[] #[]] w fun r w' => r = .returned (.tuple #[]) ∧ w' = w := by
  go_enter Try.func150, Try.ntmps150
  go_wp2_with fail
  refine wp_loop_rounds 1 ?_
  rw [rounds_succ]
  go_wp2_with (go_at_call 162; refine (insSort_none a c _).mono ?_; rintro r w1 ⟨rfl, rfl⟩)
  refine wp_loop_rounds 1 ?_
  rw [rounds_succ]
  go_wp2_with fail
  go_end0
  exact ⟨rfl, rfl⟩
theorem sort_none (a : Option Addr) (c : Nat) (w : World) :
    Calls Try.prog 107 #[.slice a 0 c, .func (.func 108) #[] #[]] w fun r w' => r = .returned (.tuple #[]) ∧ w' = w := by
  go_enter Try.func107, Try.ntmps107
  go_wp2_with (go_at_call 150; refine (stable_none a c _).mono ?_; rintro r w1 ⟨rfl, rfl⟩)
  go_end0
  exact ⟨rfl, rfl⟩
set_option maxRecDepth 100000 in
theorem clone_none (a : Option Addr) (c : Nat) (w : World) :
    Calls Try.prog 106 #[.slice a 0 c] w fun r w' => (∃ a' c', r = .returned (.slice a' 0 c')) ∧ Below w.heap.size w w' := by
  have heq := fun w => Lib.run_eql_slice_nil (P := Try.prog) w 95 57 a 0 c 0 0 Try.underlying95
  match a with
  | none =>
    go_enter Try.func106, Try.ntmps106
    go_wp2_with fail
    go_ret
    exact ⟨⟨_, _, rfl⟩, Below.refl _ _⟩
  | some ad =>
    go_enter Try.func106, Try.ntmps106
    obtain ⟨i0, hi, hz0, hz1, hz2⟩ := info_parts info57
    have hown0 : (w.alloc (.cells #[] 57)).ownsRow w.heap.size 57 3 (.slice (some ⟨w.heap.size, 0, none⟩) 0 0) 0 [] := ⟨rfl, Or.inr ⟨_, 0, #[], rfl, Nat.le_refl _, (by repeat' (first | (refine heap_alloc_at _ _ _ ?_; (first | rfl | (simp; done) | (simp; omega))) | (refine heap_alloc_past _ _ _ _ ?_))), Nat.le_refl _, by unfold maxLen; omega, rfl, rfl⟩⟩
    have HOWN := hid hown0
    have HI := hid hi
    have HZ0 := hid hz0
    have HZ1 := hid hz1
    have HZ2 := hid hz2
    clear hi hz0 hz1 hz2 hown0
    go_wp2_with (at_builtin; refine wpList_append_own _ rfl (.tmp 5) (.tmp 6) 95 rfl w.heap.size 57 i0 _ 3 24 Try.underlying95 HI.out HZ0.out HZ1.out HZ2.out rfl (by decide) _ 0 [] rfl HOWN.out ad 0 c [] rfl rfl (fun j u hu => by simp at hu) (fun u hu => by simp at hu) (by unfold maxLen; omega) (by omega) (by simp) ?_; intro v' w1 hown hgrow hnil)
    go_ret
    refine ⟨?_, ((Below.refl _ _).alloc (Nat.le_refl _) _).grown hgrow (by simp) (fun k hk => by injection hk with hk; subst hk; exact Nat.le_refl _)⟩
    rcases hown.2 with ⟨h1, _⟩ | ⟨g, cap, cur, h1, _⟩
    · subst h1; exact ⟨none, 0, rfl⟩
    · subst h1; exact ⟨_, cap, rfl⟩
set_option maxRecDepth 100000 in
theorem xClocks_none (a : Option Addr) (c : Nat) (w : World) :
    Calls Try.prog 57 #[.slice a 0 c] w fun r w' => r = .returned (.tuple #[.slice none 0 0, .int .i64 0]) ∧ Below w.heap.size w w' := by
  go_enter Try.func57, Try.ntmps57
  go_wp2_with fail
  refine wp_loop_rounds 1 ?_
  rw [rounds_succ]
  go_wp2_with (go_at_call 106; refine (clone_none a c _).mono ?_; rintro r w1 ⟨⟨a', c', rfl⟩, hb⟩)
  go_wp2_with (go_at_call 107; refine (sort_none a' c' _).mono ?_; rintro r w2 ⟨rfl, rfl⟩)
  refine wp_loop_rounds 1 ?_
  rw [rounds_succ]
  go_wp2_with fail
  go_ret2
  exact ⟨rfl, hb⟩
set_option maxRecDepth 100000 in
theorem rClocks_none (a : Option Addr) (c : Nat) (w : World) :
    Calls Try.prog 60 #[.slice a 0 c] w fun r w' => r = .returned (.tuple #[.slice none 0 0, .int .i64 0]) ∧ Below w.heap.size w w' := by
  go_enter Try.func60, Try.ntmps60
  go_wp2_with fail
  refine wp_loop_rounds 1 ?_
  rw [rounds_succ]
  go_wp2_with fail
  refine wp_loop_rounds 1 ?_
  rw [rounds_succ]
  go_wp2_with fail
  refine wp_loop_rounds 1 ?_
  rw [rounds_succ]
  go_wp2_with fail
  go_ret2
  exact ⟨rfl, Below.refl _ _⟩
/-- what Clocks returns: an error and a list -/
def clkOut (f lo hi : Nat → Int) (n : Nat) (e : Int) (l : List Syn) : Prop := (allN (syncN f lo hi) n = false ∧ e = 41 ∧ l = []) ∨ (allN (syncN f lo hi) n = true ∧ e = 0 ∧ ∃ z, Stab keyS (recL f lo hi n) z ∧ l = clocksOf z)
theorem clkOut.one {f lo hi : Nat → Int} {n : Nat} {e e' : Int} {l l' : List Syn} (h : clkOut f lo hi n e l) (h' : clkOut f lo hi n e' l') : e = e' ∧ l = l' := by
  rcases h with ⟨h1, h2, h3⟩ | ⟨h1, h2, z, h3, h4⟩ <;> rcases h' with ⟨g1, g2, g3⟩ | ⟨g1, g2, z', g3, g4⟩
  · exact ⟨by omega, by rw [h3, g3]⟩
  · rw [h1] at g1; cases g1
  · rw [h1] at g1; cases g1
  · exact ⟨by omega, by rw [h4, g4, h3.one g3]⟩
theorem clocksOf_length (z : List Syn) : (clocksOf z).length ≤ z.length ∧ (z.length ≠ 0 → (clocksOf z).length ≠ 0) := by
  have h := fold_length z []
  unfold clocksOf
  rw [List.length_reverse]
  simpa using h
theorem clkOut.length {f lo hi : Nat → Int} {n : Nat} {e : Int} {l : List Syn} (h : clkOut f lo hi n e l) : l.length ≤ n := by
  rcases h with ⟨_, _, h3⟩ | ⟨_, _, z, h3, h4⟩
  · rw [h3]; simp
  · have h1 := Same.length h3.2
    rw [recL_length] at h1
    have := (clocksOf_length z).1
    rw [h4]
    omega
theorem eq99 (a b c d e f : Int) (W : World) : (Op.equalIn 10000 99 (.agg #[.int .i64 a, .int .i64 b, .int .i64 c]) (.agg #[.int .i64 d, .int .i64 e, .int .i64 f])).run Try.prog W = .ok ([a, b, c] == [d, e, f]) W := by
  rw [equal_struct Try.underlying99 flat99 [.int .i64 a, .int .i64 b, .int .i64 c] [.int .i64 d, .int .i64 e, .int .i64 f] rfl rfl W]
  exact congrArg (fun b => Result.ok b W) (sameL_ints (a := [a, b, c]) (b := [d, e, f]) rfl)
set_option maxRecDepth 100000 in
theorem same_any (b1 b2 : Nat) (v1 v2 : Value) (l : List Syn) (w : World) (hl : l.length ≤ 40) (h1 : OwnL w b1 99 v1 l) (h2 : OwnL w b2 99 v2 l) :
    Calls Try.prog 61 #[v1, v2] w fun r w' => r = .returned (.bool true) ∧ Below w.heap.size w w' := by
  rcases Nat.eq_zero_or_pos l.length with h0 | h0
  · obtain ⟨a1, c1, e1⟩ := h1.slice
    obtain ⟨a2, c2, e2⟩ := h2.slice
    rw [h0] at e1 e2
    subst e1 e2
    clear h1 h2
    go_enter Try.func61, Try.ntmps61
    go_wp2_with fail
    refine wp_loop_rounds 1 ?_
    rw [rounds_succ]
    go_wp2_with fail
    go_ret
    exact ⟨rfl, Below.refl _ _⟩
  · obtain ⟨g1, cap1, cur1, e1, _, hc1, hr1, _, _, _⟩ := h1.rows h0
    obtain ⟨g2, cap2, cur2, e2, _, hc2, hr2, _, _, _⟩ := h2.rows h0
    subst e1 e2
    have HR1 := hid (show RowsL w g1 99 l from ⟨cur1, hc1, hr1⟩)
    have HR2 := hid (show RowsL w g2 99 l from ⟨cur2, hc2, hr2⟩)
    clear h1 h2 hc1 hc2 hr1 hr2
    generalize hn : l.length = n at *
    have HN := hid hn
    clear hn
    go_enter Try.func61, Try.ntmps61
    go_wp2_with fail
    go_loopw [13] (fun iv W => ∃ i : Nat, i ≤ n ∧ iv = .int .i64 (i : Int) ∧ Below w.heap.size w W) (fun iv _ => n - (intOf iv).toNat)
    case atStart => exact ⟨0, by omega, rfl, Below.refl _ _⟩
    case round =>
      obtain ⟨i, hi, rfl, hB⟩ := hrel
      have HB := hid hB
      by_cases hlt : i < n
      · obtain ⟨x, hx⟩ : ∃ x, l[i]? = some x := ⟨_, List.getElem?_eq_getElem (by have := HN.out; omega)⟩
        obtain ⟨a0, a1, a2⟩ := (HR1.out.grow hB).cell hx
        obtain ⟨b0, b1, b2⟩ := (HR2.out.grow hB).cell hx
        clear hx hB
        obtain ⟨p, q, r⟩ := x
        dsimp only at a0 a1 a2 b0 b1 b2
        have A0 := fun d os => cell_regrown (w := wr) a0 d os
        have A1 := fun d os => cell_regrown (w := wr) a1 d os
        have A2 := fun d os => cell_regrown (w := wr) a2 d os
        have B0 := fun d os => cell_regrown (w := wr) b0 d os
        have B1 := fun d os => cell_regrown (w := wr) b1 d os
        have B2 := fun d os => cell_regrown (w := wr) b2 d os
        clear a0 a1 a2 b0 b1 b2
        have q1 := eq99 p q r p q r
        rw [beq_self_eq_true] at q1
        go_wp2_with fail
        refine wp_region_quiet_below (by kernel_rfl) (by kernel_rfl) ?_
        repeat (first | go_big_quiet_step (fail) | quiet_step (fail))
        refine wpQuiet_nil ?_
        intro _ hw'
        obtain ⟨⟨dq, osq⟩, hw2⟩ := hw'
        subst hw2
        have ZB := hid (HB.out.trans ((below_regrown wr dq osq).mono HB.out.size))
        clear A0 A1 A2 B0 B1 B2
        generalize Sort.grow (redrawn wr dq) osq = W9 at *
        go_wp2_with fail
        go_roundw
        case rel => exact ⟨i + 1, by omega, by go_num, ZB.out⟩
        case measure => simp [intOf]; omega
      · clear hB
        go_wp2_with fail
        go_ret
        exact ⟨rfl, HB.out⟩
end Go.Proofs.Yteoikaedpgianaa
