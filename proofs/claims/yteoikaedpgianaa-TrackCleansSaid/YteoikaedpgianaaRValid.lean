/- Fixes, syncs and rules: what the tests of the program and of its reference return. -/
import Derived.Test.YteoikaedpgianaaRNav
namespace Go.Proofs.Yteoikaedpgianaa
open Go.RowKit


def rulesB (a b c d : Int) : Bool := inB 1 10000000 a && inB 0 1000000 b && inB 0 100000 c && inB 0 10000000 d
set_option maxRecDepth 100000 in
theorem xRules_any (a b c d : Int) (w : World) :
    Calls Try.prog 41 #[.agg #[.int .i64 a, .int .i64 b, .int .i64 c, .int .i64 d]] w fun e w' => e = .returned (.bool (rulesB a b c d)) ∧ Below w.heap.size w w' := by
  by_cases h1 : inB 1 10000000 a = true
  · by_cases h2 : inB 0 1000000 b = true
    · by_cases h3 : inB 0 100000 c = true
      · have HS := hid (show rulesB a b c d = inB 0 10000000 d by simp [rulesB, h1, h2, h3])
        have H1 := hid h1
        have H2 := hid h2
        have H3 := hid h3
        clear h1 h2 h3
        go_enter Try.func41, Try.ntmps41
        go_wp2_with fail
        refine (within1 _ _ (a) _ _ _ ?_).mono ?_
        focus first | (simp; done) | (simp [go_sem]; done)
        rintro r w1 ⟨rfl, rfl⟩
        rw [H1.out]
        go_wp2_with fail
        refine (within1 _ _ (b) _ _ _ ?_).mono ?_
        focus first | (simp; done) | (simp [go_sem]; done)
        rintro r w1 ⟨rfl, rfl⟩
        rw [H2.out]
        go_wp2_with fail
        refine (within1 _ _ (c) _ _ _ ?_).mono ?_
        focus first | (simp; done) | (simp [go_sem]; done)
        rintro r w1 ⟨rfl, rfl⟩
        rw [H3.out]
        go_wp2_with fail
        refine (within1 _ _ (d) _ _ _ ?_).mono ?_
        focus first | (simp; done) | (simp [go_sem]; done)
        rintro r w1 ⟨rfl, rfl⟩
        go_wp2_with fail
        go_ret
        refine ⟨by rw [HS.out]; rfl, ?_⟩
        (try have hB0 := HB.out)
        (repeat' (first | (with_reducible exact Below.refl _ _) | (with_reducible assumption) | (with_reducible refine Below.alloc ?_ ?_ _) | (with_reducible refine Below.drew ?_) | (with_reducible refine below_drewN ?_ _) | (with_reducible refine Below.setCell ?_ ?_ _) | (with_reducible refine below_setRow ?_ ?_ _) | go_size))
      · have HS := hid (show rulesB a b c d = false by simp [rulesB, h1, h2, h3])
        have H1 := hid h1
        have H2 := hid h2
        have H3 := hid (Bool.eq_false_iff.2 h3)
        clear h1 h2 h3
        go_enter Try.func41, Try.ntmps41
        go_wp2_with fail
        refine (within1 _ _ (a) _ _ _ ?_).mono ?_
        focus first | (simp; done) | (simp [go_sem]; done)
        rintro r w1 ⟨rfl, rfl⟩
        rw [H1.out]
        go_wp2_with fail
        refine (within1 _ _ (b) _ _ _ ?_).mono ?_
        focus first | (simp; done) | (simp [go_sem]; done)
        rintro r w1 ⟨rfl, rfl⟩
        rw [H2.out]
        go_wp2_with fail
        refine (within1 _ _ (c) _ _ _ ?_).mono ?_
        focus first | (simp; done) | (simp [go_sem]; done)
        rintro r w1 ⟨rfl, rfl⟩
        rw [H3.out]
        go_wp2_with fail
        go_ret
        refine ⟨by rw [HS.out]; rfl, ?_⟩
        (try have hB0 := HB.out)
        (repeat' (first | (with_reducible exact Below.refl _ _) | (with_reducible assumption) | (with_reducible refine Below.alloc ?_ ?_ _) | (with_reducible refine Below.drew ?_) | (with_reducible refine below_drewN ?_ _) | (with_reducible refine Below.setCell ?_ ?_ _) | (with_reducible refine below_setRow ?_ ?_ _) | go_size))
    · have HS := hid (show rulesB a b c d = false by simp [rulesB, h1, h2])
      have H1 := hid h1
      have H2 := hid (Bool.eq_false_iff.2 h2)
      clear h1 h2
      go_enter Try.func41, Try.ntmps41
      go_wp2_with fail
      refine (within1 _ _ (a) _ _ _ ?_).mono ?_
      focus first | (simp; done) | (simp [go_sem]; done)
      rintro r w1 ⟨rfl, rfl⟩
      rw [H1.out]
      go_wp2_with fail
      refine (within1 _ _ (b) _ _ _ ?_).mono ?_
      focus first | (simp; done) | (simp [go_sem]; done)
      rintro r w1 ⟨rfl, rfl⟩
      rw [H2.out]
      go_wp2_with fail
      go_ret
      refine ⟨by rw [HS.out]; rfl, ?_⟩
      (try have hB0 := HB.out)
      (repeat' (first | (with_reducible exact Below.refl _ _) | (with_reducible assumption) | (with_reducible refine Below.alloc ?_ ?_ _) | (with_reducible refine Below.drew ?_) | (with_reducible refine below_drewN ?_ _) | (with_reducible refine Below.setCell ?_ ?_ _) | (with_reducible refine below_setRow ?_ ?_ _) | go_size))
  · have HS := hid (show rulesB a b c d = false by simp [rulesB, h1])
    have H1 := hid (Bool.eq_false_iff.2 h1)
    clear h1
    go_enter Try.func41, Try.ntmps41
    go_wp2_with fail
    refine (within1 _ _ (a) _ _ _ ?_).mono ?_
    focus first | (simp; done) | (simp [go_sem]; done)
    rintro r w1 ⟨rfl, rfl⟩
    rw [H1.out]
    go_wp2_with fail
    go_ret
    refine ⟨by rw [HS.out]; rfl, ?_⟩
    (try have hB0 := HB.out)
    (repeat' (first | (with_reducible exact Below.refl _ _) | (with_reducible assumption) | (with_reducible refine Below.alloc ?_ ?_ _) | (with_reducible refine Below.drew ?_) | (with_reducible refine below_drewN ?_ _) | (with_reducible refine Below.setCell ?_ ?_ _) | (with_reducible refine below_setRow ?_ ?_ _) | go_size))
set_option maxRecDepth 100000 in
theorem rRules_any (a b c d : Int) (w : World) :
    Calls Try.prog 42 #[.agg #[.int .i64 a, .int .i64 b, .int .i64 c, .int .i64 d]] w fun e w' => e = .returned (.bool (rulesB a b c d)) ∧ Below w.heap.size w w' := by
  by_cases h1 : inB 1 10000000 a = true
  · by_cases h2 : inB 0 1000000 b = true
    · by_cases h3 : inB 0 100000 c = true
      · have HS := hid (show rulesB a b c d = inB 0 10000000 d by simp [rulesB, h1, h2, h3])
        have H1 := hid h1
        have H2 := hid h2
        have H3 := hid h3
        clear h1 h2 h3
        go_enter Try.func42, Try.ntmps42
        go_wp2_with fail
        refine (from_any _ _ _ _).mono ?_
        rintro r w1 ⟨rfl, rfl⟩
        rw [H1.out]
        go_wp2_with fail
        refine (from_any _ _ _ _).mono ?_
        rintro r w1 ⟨rfl, rfl⟩
        rw [H2.out]
        go_wp2_with fail
        refine (from_any _ _ _ _).mono ?_
        rintro r w1 ⟨rfl, rfl⟩
        rw [H3.out]
        go_wp2_with fail
        refine (from_any _ _ _ _).mono ?_
        rintro r w1 ⟨rfl, rfl⟩
        go_wp2_with fail
        go_ret
        refine ⟨by rw [HS.out]; rfl, ?_⟩
        (try have hB0 := HB.out)
        (repeat' (first | (with_reducible exact Below.refl _ _) | (with_reducible assumption) | (with_reducible refine Below.alloc ?_ ?_ _) | (with_reducible refine Below.drew ?_) | (with_reducible refine below_drewN ?_ _) | (with_reducible refine Below.setCell ?_ ?_ _) | (with_reducible refine below_setRow ?_ ?_ _) | go_size))
      · have HS := hid (show rulesB a b c d = false by simp [rulesB, h1, h2, h3])
        have H1 := hid h1
        have H2 := hid h2
        have H3 := hid (Bool.eq_false_iff.2 h3)
        clear h1 h2 h3
        go_enter Try.func42, Try.ntmps42
        go_wp2_with fail
        refine (from_any _ _ _ _).mono ?_
        rintro r w1 ⟨rfl, rfl⟩
        rw [H1.out]
        go_wp2_with fail
        refine (from_any _ _ _ _).mono ?_
        rintro r w1 ⟨rfl, rfl⟩
        rw [H2.out]
        go_wp2_with fail
        refine (from_any _ _ _ _).mono ?_
        rintro r w1 ⟨rfl, rfl⟩
        rw [H3.out]
        go_wp2_with fail
        go_ret
        refine ⟨by rw [HS.out]; rfl, ?_⟩
        (try have hB0 := HB.out)
        (repeat' (first | (with_reducible exact Below.refl _ _) | (with_reducible assumption) | (with_reducible refine Below.alloc ?_ ?_ _) | (with_reducible refine Below.drew ?_) | (with_reducible refine below_drewN ?_ _) | (with_reducible refine Below.setCell ?_ ?_ _) | (with_reducible refine below_setRow ?_ ?_ _) | go_size))
    · have HS := hid (show rulesB a b c d = false by simp [rulesB, h1, h2])
      have H1 := hid h1
      have H2 := hid (Bool.eq_false_iff.2 h2)
      clear h1 h2
      go_enter Try.func42, Try.ntmps42
      go_wp2_with fail
      refine (from_any _ _ _ _).mono ?_
      rintro r w1 ⟨rfl, rfl⟩
      rw [H1.out]
      go_wp2_with fail
      refine (from_any _ _ _ _).mono ?_
      rintro r w1 ⟨rfl, rfl⟩
      rw [H2.out]
      go_wp2_with fail
      go_ret
      refine ⟨by rw [HS.out]; rfl, ?_⟩
      (try have hB0 := HB.out)
      (repeat' (first | (with_reducible exact Below.refl _ _) | (with_reducible assumption) | (with_reducible refine Below.alloc ?_ ?_ _) | (with_reducible refine Below.drew ?_) | (with_reducible refine below_drewN ?_ _) | (with_reducible refine Below.setCell ?_ ?_ _) | (with_reducible refine below_setRow ?_ ?_ _) | go_size))
  · have HS := hid (show rulesB a b c d = false by simp [rulesB, h1])
    have H1 := hid (Bool.eq_false_iff.2 h1)
    clear h1
    go_enter Try.func42, Try.ntmps42
    go_wp2_with fail
    refine (from_any _ _ _ _).mono ?_
    rintro r w1 ⟨rfl, rfl⟩
    rw [H1.out]
    go_wp2_with fail
    go_ret
    refine ⟨by rw [HS.out]; rfl, ?_⟩
    (try have hB0 := HB.out)
    (repeat' (first | (with_reducible exact Below.refl _ _) | (with_reducible assumption) | (with_reducible refine Below.alloc ?_ ?_ _) | (with_reducible refine Below.drew ?_) | (with_reducible refine below_drewN ?_ _) | (with_reducible refine Below.setCell ?_ ?_ _) | (with_reducible refine below_setRow ?_ ?_ _) | go_size))
def fixB (t x y z e a b c d g : Int) : Bool := inB 0 1125899906842624 t && [x, y, z].all (inB (-134217728) 134217728) && inB 0 100000 e && turnB 1000 a b c d && inB 0 1000000 g

set_option maxRecDepth 100000 in
theorem validTurn_any (a b c d : Int) (w : World) :
    Calls Try.prog 88 #[.agg #[.int .i64 a, .int .i64 b, .int .i64 c, .int .i64 d]] w fun e w' => e = .returned (.bool (turnB 1000 a b c d)) ∧ Below w.heap.size w w' := by
  have hq := eq22 a b c d 0 0 0 0
  by_cases hz : ([a, b, c, d] == [0, 0, 0, 0]) = true
  · have HT := hid (turnB_zero (l := 1000) hz)
    rw [hz] at hq
    clear hz
    go_enter Try.func88, Try.ntmps88
    go_wp2_with fail
    go_ret
    refine ⟨by rw [HT.out]; rfl, ?_⟩
    (repeat' (first | (with_reducible exact Below.refl _ _) | (with_reducible assumption) | (with_reducible refine Below.alloc ?_ ?_ _) | (with_reducible refine Below.drew ?_) | (with_reducible refine below_drewN ?_ _) | (with_reducible refine Below.setCell ?_ ?_ _) | (with_reducible refine below_setRow ?_ ?_ _) | go_size))
  · have hz' := Bool.eq_false_iff.2 hz
    have HT := hid (turnB_ok (l := 1000) hz')
    rw [hz'] at hq
    clear hz hz'
    go_enter Try.func88, Try.ntmps88
    go_wp2_with fail
    refine (within_any _ _ _ _ _ _ [a, b, c, d] _ rfl (by simp) (cells_ints _ (by repeat' (first | (refine heap_alloc_at _ _ _ ?_; (first | rfl | (simp; done) | (simp; omega))) | (refine heap_alloc_past _ _ _ _ ?_))) rfl)).mono ?_
    rintro r w1 ⟨rfl, rfl⟩
    rw [show [a, b, c, d].all (inB (-1000) 1000) = ok4 1000 a b c d from rfl]
    go_wp2_with fail
    go_ret
    refine ⟨by rw [HT.out]; rfl, ?_⟩
    (repeat' (first | (with_reducible exact Below.refl _ _) | (with_reducible assumption) | (with_reducible refine Below.alloc ?_ ?_ _) | (with_reducible refine Below.drew ?_) | (with_reducible refine below_drewN ?_ _) | (with_reducible refine Below.setCell ?_ ?_ _) | (with_reducible refine below_setRow ?_ ?_ _) | go_size))

theorem cells_off {w : World} {b t o : Nat} {fr : Nat × Nat} {C : Array Value} (zs : List Int) (h : w.heap[b]? = some (.cells C t fr)) (hC : ∀ i, i < zs.length → C[o + i]? = some (.int .i64 (zs.getD i 0))) (i : Nat) (hi : i < zs.length) :
    w.cell? ⟨b, o + i, none⟩ = some (.int .i64 (zs.getD i 0)) := by rw [cell_row h]; exact hC i hi
theorem upto3 {p : Nat → Prop} (h0 : p 0) (h1 : p 1) (h2 : p 2) (i : Nat) (hi : i < 3) : p i := by
  match i, hi with
  | 0, _ => exact h0
  | 1, _ => exact h1
  | 2, _ => exact h2
theorem index3 (a b c : Int) (k : Nat) (hk : k < 3) (w : World) :
    (Instr.index 26 (.agg #[.int .i64 a, .int .i64 b, .int .i64 c]) (.int .i64 (k : Int))).run Try.prog w = .ok (.int .i64 ([a, b, c].getD k 0)) w := by
  refine upto3 (p := fun k => (Instr.index 26 (.agg #[.int .i64 a, .int .i64 b, .int .i64 c]) (.int .i64 (k : Int))).run Try.prog w = .ok (.int .i64 ([a, b, c].getD k 0)) w) ?_ ?_ ?_ k hk
  · kernel_rfl
  · kernel_rfl
  · kernel_rfl

set_option maxRecDepth 100000 in
set_option maxHeartbeats 800000 in
theorem xFix_any (t x y z e a b c d g : Int) (w : World) :
    Calls Try.prog 37 #[.agg #[.int .i64 t, .int .i64 x, .int .i64 y, .int .i64 z, .int .i64 e, .int .i64 a, .int .i64 b, .int .i64 c, .int .i64 d, .int .i64 g]] w fun r w' => r = .returned (.bool (fixB t x y z e a b c d g)) ∧ Below w.heap.size w w' := by
  by_cases h1 : inB 0 1125899906842624 t = true
  · by_cases h2 : [x, y, z].all (inB (-134217728) 134217728) = true
    · by_cases h3 : inB 0 100000 e = true
      · by_cases h4 : turnB 1000 a b c d = true
        · have HS := hid (show fixB t x y z e a b c d g = inB 0 1000000 g by simp [fixB, h1, h2, h3, h4])
          have H1 := hid h1
          have H2 := hid h2
          have H3 := hid h3
          have H4 := hid h4
          clear h1 h2 h3 h4
          go_enter Try.func37, Try.ntmps37
          go_wp2_with fail
          refine (within1 _ _ (t) _ _ _ ?_).mono ?_
          focus first | (simp; done) | (simp [go_sem]; done)
          rintro r w1 ⟨rfl, rfl⟩
          rw [H1.out]
          go_wp2_with fail
          refine (within_any _ _ _ _ _ _ [x, y, z] _ rfl (by simp) (cells_off _ (by repeat' (first | (refine heap_alloc_at _ _ _ ?_; (first | rfl | (simp; done) | (simp; omega))) | (refine heap_alloc_past _ _ _ _ ?_))) (upto3 rfl rfl rfl))).mono ?_
          rintro r w1 ⟨rfl, rfl⟩
          rw [H2.out]
          go_wp2_with fail
          refine (within1 _ _ (e) _ _ _ ?_).mono ?_
          focus first | (simp; done) | (simp [go_sem]; done)
          rintro r w1 ⟨rfl, rfl⟩
          rw [H3.out]
          go_wp2_with fail
          refine (validTurn_any _ _ _ _ _).mono ?_
          rintro r w4 ⟨rfl, hb⟩
          have HB := hid ((by refine Below.trans ?_ (hb.mono ?_); (focus ((repeat' (first | (with_reducible exact Below.refl _ _) | (with_reducible assumption) | (with_reducible refine Below.alloc ?_ ?_ _) | (with_reducible refine Below.drew ?_) | (with_reducible refine below_drewN ?_ _) | (with_reducible refine Below.setCell ?_ ?_ _) | (with_reducible refine below_setRow ?_ ?_ _) | go_size)); done)); (focus (first | (simp; done) | (simp; omega)))) : Below w.heap.size w w4)
          have hsw4 := hb.size
          (try simp at hsw4)
          have hzw4 : w.heap.size < w4.heap.size := by omega
          obtain ⟨hcw4, hfw4⟩ := bcell hb
          clear hb
          rw [H4.out]
          go_wp2_with fail
          refine (within1 _ _ (g) _ _ _ ?_).mono ?_
          focus first | (simp; done) | (simp [go_sem]; done)
          rintro r w1 ⟨rfl, rfl⟩
          go_wp2_with fail
          go_ret
          refine ⟨by rw [HS.out]; rfl, ?_⟩
          (try have hB0 := HB.out)
          (repeat' (first | (with_reducible exact Below.refl _ _) | (with_reducible assumption) | (with_reducible refine Below.alloc ?_ ?_ _) | (with_reducible refine Below.drew ?_) | (with_reducible refine below_drewN ?_ _) | (with_reducible refine Below.setCell ?_ ?_ _) | (with_reducible refine below_setRow ?_ ?_ _) | go_size))
        · have HS := hid (show fixB t x y z e a b c d g = false by simp [fixB, h1, h2, h3, h4])
          have H1 := hid h1
          have H2 := hid h2
          have H3 := hid h3
          have H4 := hid (Bool.eq_false_iff.2 h4)
          clear h1 h2 h3 h4
          go_enter Try.func37, Try.ntmps37
          go_wp2_with fail
          refine (within1 _ _ (t) _ _ _ ?_).mono ?_
          focus first | (simp; done) | (simp [go_sem]; done)
          rintro r w1 ⟨rfl, rfl⟩
          rw [H1.out]
          go_wp2_with fail
          refine (within_any _ _ _ _ _ _ [x, y, z] _ rfl (by simp) (cells_off _ (by repeat' (first | (refine heap_alloc_at _ _ _ ?_; (first | rfl | (simp; done) | (simp; omega))) | (refine heap_alloc_past _ _ _ _ ?_))) (upto3 rfl rfl rfl))).mono ?_
          rintro r w1 ⟨rfl, rfl⟩
          rw [H2.out]
          go_wp2_with fail
          refine (within1 _ _ (e) _ _ _ ?_).mono ?_
          focus first | (simp; done) | (simp [go_sem]; done)
          rintro r w1 ⟨rfl, rfl⟩
          rw [H3.out]
          go_wp2_with fail
          refine (validTurn_any _ _ _ _ _).mono ?_
          rintro r w4 ⟨rfl, hb⟩
          have HB := hid ((by refine Below.trans ?_ (hb.mono ?_); (focus ((repeat' (first | (with_reducible exact Below.refl _ _) | (with_reducible assumption) | (with_reducible refine Below.alloc ?_ ?_ _) | (with_reducible refine Below.drew ?_) | (with_reducible refine below_drewN ?_ _) | (with_reducible refine Below.setCell ?_ ?_ _) | (with_reducible refine below_setRow ?_ ?_ _) | go_size)); done)); (focus (first | (simp; done) | (simp; omega)))) : Below w.heap.size w w4)
          have hsw4 := hb.size
          (try simp at hsw4)
          have hzw4 : w.heap.size < w4.heap.size := by omega
          obtain ⟨hcw4, hfw4⟩ := bcell hb
          clear hb
          rw [H4.out]
          go_wp2_with fail
          go_ret
          refine ⟨by rw [HS.out]; rfl, ?_⟩
          (try have hB0 := HB.out)
          (repeat' (first | (with_reducible exact Below.refl _ _) | (with_reducible assumption) | (with_reducible refine Below.alloc ?_ ?_ _) | (with_reducible refine Below.drew ?_) | (with_reducible refine below_drewN ?_ _) | (with_reducible refine Below.setCell ?_ ?_ _) | (with_reducible refine below_setRow ?_ ?_ _) | go_size))
      · have HS := hid (show fixB t x y z e a b c d g = false by simp [fixB, h1, h2, h3])
        have H1 := hid h1
        have H2 := hid h2
        have H3 := hid (Bool.eq_false_iff.2 h3)
        clear h1 h2 h3
        go_enter Try.func37, Try.ntmps37
        go_wp2_with fail
        refine (within1 _ _ (t) _ _ _ ?_).mono ?_
        focus first | (simp; done) | (simp [go_sem]; done)
        rintro r w1 ⟨rfl, rfl⟩
        rw [H1.out]
        go_wp2_with fail
        refine (within_any _ _ _ _ _ _ [x, y, z] _ rfl (by simp) (cells_off _ (by repeat' (first | (refine heap_alloc_at _ _ _ ?_; (first | rfl | (simp; done) | (simp; omega))) | (refine heap_alloc_past _ _ _ _ ?_))) (upto3 rfl rfl rfl))).mono ?_
        rintro r w1 ⟨rfl, rfl⟩
        rw [H2.out]
        go_wp2_with fail
        refine (within1 _ _ (e) _ _ _ ?_).mono ?_
        focus first | (simp; done) | (simp [go_sem]; done)
        rintro r w1 ⟨rfl, rfl⟩
        rw [H3.out]
        go_wp2_with fail
        go_ret
        refine ⟨by rw [HS.out]; rfl, ?_⟩
        (try have hB0 := HB.out)
        (repeat' (first | (with_reducible exact Below.refl _ _) | (with_reducible assumption) | (with_reducible refine Below.alloc ?_ ?_ _) | (with_reducible refine Below.drew ?_) | (with_reducible refine below_drewN ?_ _) | (with_reducible refine Below.setCell ?_ ?_ _) | (with_reducible refine below_setRow ?_ ?_ _) | go_size))
    · have HS := hid (show fixB t x y z e a b c d g = false by simp [fixB, h1, h2])
      have H1 := hid h1
      have H2 := hid (Bool.eq_false_iff.2 h2)
      clear h1 h2
      go_enter Try.func37, Try.ntmps37
      go_wp2_with fail
      refine (within1 _ _ (t) _ _ _ ?_).mono ?_
      focus first | (simp; done) | (simp [go_sem]; done)
      rintro r w1 ⟨rfl, rfl⟩
      rw [H1.out]
      go_wp2_with fail
      refine (within_any _ _ _ _ _ _ [x, y, z] _ rfl (by simp) (cells_off _ (by repeat' (first | (refine heap_alloc_at _ _ _ ?_; (first | rfl | (simp; done) | (simp; omega))) | (refine heap_alloc_past _ _ _ _ ?_))) (upto3 rfl rfl rfl))).mono ?_
      rintro r w1 ⟨rfl, rfl⟩
      rw [H2.out]
      go_wp2_with fail
      go_ret
      refine ⟨by rw [HS.out]; rfl, ?_⟩
      (try have hB0 := HB.out)
      (repeat' (first | (with_reducible exact Below.refl _ _) | (with_reducible assumption) | (with_reducible refine Below.alloc ?_ ?_ _) | (with_reducible refine Below.drew ?_) | (with_reducible refine below_drewN ?_ _) | (with_reducible refine Below.setCell ?_ ?_ _) | (with_reducible refine below_setRow ?_ ?_ _) | go_size))
  · have HS := hid (show fixB t x y z e a b c d g = false by simp [fixB, h1])
    have H1 := hid (Bool.eq_false_iff.2 h1)
    clear h1
    go_enter Try.func37, Try.ntmps37
    go_wp2_with fail
    refine (within1 _ _ (t) _ _ _ ?_).mono ?_
    focus first | (simp; done) | (simp [go_sem]; done)
    rintro r w1 ⟨rfl, rfl⟩
    rw [H1.out]
    go_wp2_with fail
    go_ret
    refine ⟨by rw [HS.out]; rfl, ?_⟩
    (try have hB0 := HB.out)
    (repeat' (first | (with_reducible exact Below.refl _ _) | (with_reducible assumption) | (with_reducible refine Below.alloc ?_ ?_ _) | (with_reducible refine Below.drew ?_) | (with_reducible refine below_drewN ?_ _) | (with_reducible refine Below.setCell ?_ ?_ _) | (with_reducible refine below_setRow ?_ ?_ _) | go_size))

set_option maxRecDepth 100000 in
set_option maxHeartbeats 800000 in
theorem rFix_any (t x y z e a b c d g : Int) (w : World) :
    Calls Try.prog 38 #[.agg #[.int .i64 t, .int .i64 x, .int .i64 y, .int .i64 z, .int .i64 e, .int .i64 a, .int .i64 b, .int .i64 c, .int .i64 d, .int .i64 g]] w fun r w' => r = .returned (.bool (fixB t x y z e a b c d g)) ∧ Below w.heap.size w w' := by
  have HBAD := hid (show [x, y, z].all (inB (-134217728) 134217728) = false → fixB t x y z e a b c d g = false from fun h => by unfold fixB; rw [h]; simp only [Bool.and_false, Bool.false_and])
  go_enter Try.func38, Try.ntmps38
  go_wp2_with fail
  go_loop [7] (fun i => ∃ (k : Nat), k ≤ 3 ∧ i = .int .i64 k ∧ ([x, y, z].take k).all (inB (-134217728) 134217728) = true) (fun i => 3 - (intOf i).toNat)
  case atStart => exact ⟨0, by omega, rfl, rfl⟩
  case round =>
    obtain ⟨k, hk, rfl, hall⟩ := hrel
    have HA := hid hall; clear hall
    by_cases hlt : k < 3
    · have hix := index3 x y z k hlt
      have hsn := hid (inB_step (zs := [x, y, z]) hlt HA.out)
      have HST := hid (@inB_stop [x, y, z] (inB (-134217728) 134217728) k hlt)
      generalize [x, y, z].getD k 0 = v at *
      by_cases h1 : inB (-134217728) 134217728 v = true
      · have h1' := hid h1; clear h1
        go_wp2_with fail
        refine (from_any _ _ _ _).mono ?_
        rintro r w1 ⟨rfl, rfl⟩
        rw [h1'.out]
        go_wp2_with fail
        go_round
        case rel => exact ⟨k + 1, by omega, by go_num, by rw [hsn.out]; exact h1'.out⟩
        case measure => simp [intOf]; omega
      · have h1' := hid (Bool.eq_false_iff.2 h1); clear h1
        go_wp2_with fail
        refine (from_any _ _ _ _).mono ?_
        rintro r w1 ⟨rfl, rfl⟩
        rw [h1'.out]
        go_wp2_with fail
        go_ret
        refine ⟨by rw [HBAD.out (HST.out h1'.out)]; rfl, ?_⟩
        (repeat' (first | (with_reducible exact Below.refl _ _) | (with_reducible assumption) | (with_reducible refine Below.alloc ?_ ?_ _) | (with_reducible refine Below.drew ?_) | (with_reducible refine below_drewN ?_ _) | (with_reducible refine Below.setCell ?_ ?_ _) | (with_reducible refine below_setRow ?_ ?_ _) | go_size))
    · obtain rfl : k = 3 := by omega
      have hp : [x, y, z].all (inB (-134217728) 134217728) = true := HA.out
      have HC := hid (show fixB t x y z e a b c d g = (inB 0 1125899906842624 t && inB 0 100000 e && turnB 1000 a b c d && inB 0 1000000 g) by unfold fixB; rw [hp, Bool.and_true])
      clear hp
      by_cases h1 : inB 0 1125899906842624 t = true
      · by_cases h2 : inB 0 100000 e = true
        · by_cases h3 : turnB 1000 a b c d = true
          · have HS := hid (show fixB t x y z e a b c d g = inB 0 1000000 g by simp [HC.out, h1, h2, h3])
            have H1 := hid h1
            have H2 := hid h2
            have H3 := hid h3
            clear h1 h2 h3
            go_wp2_with fail
            refine (from_any _ _ _ _).mono ?_
            rintro r w1 ⟨rfl, rfl⟩
            rw [H1.out]
            go_wp2_with fail
            refine (from_any _ _ _ _).mono ?_
            rintro r w1 ⟨rfl, rfl⟩
            rw [H2.out]
            go_wp2_with fail
            refine (turns_any _ _ _ _ _ (by omega) _).mono ?_
            rintro r w4 ⟨rfl, hb⟩
            have HB := hid ((by refine Below.trans ?_ (hb.mono ?_); (focus ((repeat' (first | (with_reducible exact Below.refl _ _) | (with_reducible assumption) | (with_reducible refine Below.alloc ?_ ?_ _) | (with_reducible refine Below.drew ?_) | (with_reducible refine below_drewN ?_ _) | (with_reducible refine Below.setCell ?_ ?_ _) | (with_reducible refine below_setRow ?_ ?_ _) | go_size)); done)); (focus (first | (simp; done) | (simp; omega)))) : Below w.heap.size w w4)
            have hsw4 := hb.size
            (try simp at hsw4)
            have hzw4 : w.heap.size < w4.heap.size := by omega
            obtain ⟨hcw4, hfw4⟩ := bcell hb
            clear hb
            rw [H3.out]
            go_wp2_with fail
            refine (from_any _ _ _ _).mono ?_
            rintro r w1 ⟨rfl, rfl⟩
            go_wp2_with fail
            go_ret
            refine ⟨by rw [HS.out]; rfl, ?_⟩
            (try have hB0 := HB.out)
            (repeat' (first | (with_reducible exact Below.refl _ _) | (with_reducible assumption) | (with_reducible refine Below.alloc ?_ ?_ _) | (with_reducible refine Below.drew ?_) | (with_reducible refine below_drewN ?_ _) | (with_reducible refine Below.setCell ?_ ?_ _) | (with_reducible refine below_setRow ?_ ?_ _) | go_size))
          · have HS := hid (show fixB t x y z e a b c d g = false by simp [HC.out, h1, h2, h3])
            have H1 := hid h1
            have H2 := hid h2
            have H3 := hid (Bool.eq_false_iff.2 h3)
            clear h1 h2 h3
            go_wp2_with fail
            refine (from_any _ _ _ _).mono ?_
            rintro r w1 ⟨rfl, rfl⟩
            rw [H1.out]
            go_wp2_with fail
            refine (from_any _ _ _ _).mono ?_
            rintro r w1 ⟨rfl, rfl⟩
            rw [H2.out]
            go_wp2_with fail
            refine (turns_any _ _ _ _ _ (by omega) _).mono ?_
            rintro r w4 ⟨rfl, hb⟩
            have HB := hid ((by refine Below.trans ?_ (hb.mono ?_); (focus ((repeat' (first | (with_reducible exact Below.refl _ _) | (with_reducible assumption) | (with_reducible refine Below.alloc ?_ ?_ _) | (with_reducible refine Below.drew ?_) | (with_reducible refine below_drewN ?_ _) | (with_reducible refine Below.setCell ?_ ?_ _) | (with_reducible refine below_setRow ?_ ?_ _) | go_size)); done)); (focus (first | (simp; done) | (simp; omega)))) : Below w.heap.size w w4)
            have hsw4 := hb.size
            (try simp at hsw4)
            have hzw4 : w.heap.size < w4.heap.size := by omega
            obtain ⟨hcw4, hfw4⟩ := bcell hb
            clear hb
            rw [H3.out]
            go_wp2_with fail
            go_ret
            refine ⟨by rw [HS.out]; rfl, ?_⟩
            (try have hB0 := HB.out)
            (repeat' (first | (with_reducible exact Below.refl _ _) | (with_reducible assumption) | (with_reducible refine Below.alloc ?_ ?_ _) | (with_reducible refine Below.drew ?_) | (with_reducible refine below_drewN ?_ _) | (with_reducible refine Below.setCell ?_ ?_ _) | (with_reducible refine below_setRow ?_ ?_ _) | go_size))
        · have HS := hid (show fixB t x y z e a b c d g = false by simp [HC.out, h1, h2])
          have H1 := hid h1
          have H2 := hid (Bool.eq_false_iff.2 h2)
          clear h1 h2
          go_wp2_with fail
          refine (from_any _ _ _ _).mono ?_
          rintro r w1 ⟨rfl, rfl⟩
          rw [H1.out]
          go_wp2_with fail
          refine (from_any _ _ _ _).mono ?_
          rintro r w1 ⟨rfl, rfl⟩
          rw [H2.out]
          go_wp2_with fail
          go_ret
          refine ⟨by rw [HS.out]; rfl, ?_⟩
          (try have hB0 := HB.out)
          (repeat' (first | (with_reducible exact Below.refl _ _) | (with_reducible assumption) | (with_reducible refine Below.alloc ?_ ?_ _) | (with_reducible refine Below.drew ?_) | (with_reducible refine below_drewN ?_ _) | (with_reducible refine Below.setCell ?_ ?_ _) | (with_reducible refine below_setRow ?_ ?_ _) | go_size))
      · have HS := hid (show fixB t x y z e a b c d g = false by simp [HC.out, h1])
        have H1 := hid (Bool.eq_false_iff.2 h1)
        clear h1
        go_wp2_with fail
        refine (from_any _ _ _ _).mono ?_
        rintro r w1 ⟨rfl, rfl⟩
        rw [H1.out]
        go_wp2_with fail
        go_ret
        refine ⟨by rw [HS.out]; rfl, ?_⟩
        (try have hB0 := HB.out)
        (repeat' (first | (with_reducible exact Below.refl _ _) | (with_reducible assumption) | (with_reducible refine Below.alloc ?_ ?_ _) | (with_reducible refine Below.drew ?_) | (with_reducible refine below_drewN ?_ _) | (with_reducible refine Below.setCell ?_ ?_ _) | (with_reducible refine below_setRow ?_ ?_ _) | go_size))
end Go.Proofs.Yteoikaedpgianaa
