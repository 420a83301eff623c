/- Spans and boxes: what the tests of the program and of its reference return. -/
import Derived.Test.YteoikaedpgianaaBeam
import Derived.Lib.QuietBelow
namespace Go.Proofs.Yteoikaedpgianaa
open Go.RowKit

/-- a valid span -/
def spanB (lo hi : Int) : Bool := decide (-1152921504606846976 ≤ lo) && decide (lo ≤ hi) && decide (hi ≤ 1152921504606846976)
/-- a span inside another one -/
def insB (lo hi lo' hi' : Int) : Bool := spanB lo hi && decide (lo' ≤ lo) && decide (hi ≤ hi')

theorem valid_any (lo hi : Int) (w : World) :
    Calls Try.prog 85 #[.agg #[.int .i64 lo, .int .i64 hi]] w fun e w' => e = .returned (.bool (spanB lo hi)) ∧ Below w.heap.size w w' := by
  by_cases h1 : -1152921504606846976 ≤ lo
  · by_cases h2 : lo ≤ hi
    · have HS := hid (show spanB lo hi = decide (hi ≤ 1152921504606846976) by simp [spanB, h1, h2])
      go_enter Try.func85, Try.ntmps85
      go_wp2
      go_ret
      refine ⟨by rw [HS.out]; rfl, ?_⟩
      (repeat' (first | (with_reducible exact Below.refl _ _) | (with_reducible assumption) | (with_reducible refine Below.alloc ?_ ?_ _) | (with_reducible refine Below.drew ?_) | (with_reducible refine below_drewN ?_ _) | (with_reducible refine Below.setCell ?_ ?_ _) | (with_reducible refine below_setRow ?_ ?_ _) | go_size))
    · have HS := hid (show spanB lo hi = false by simp [spanB, h2])
      go_enter Try.func85, Try.ntmps85
      go_wp2
      go_ret
      refine ⟨by rw [HS.out]; rfl, ?_⟩
      (repeat' (first | (with_reducible exact Below.refl _ _) | (with_reducible assumption) | (with_reducible refine Below.alloc ?_ ?_ _) | (with_reducible refine Below.drew ?_) | (with_reducible refine below_drewN ?_ _) | (with_reducible refine Below.setCell ?_ ?_ _) | (with_reducible refine below_setRow ?_ ?_ _) | go_size))
  · have HS := hid (show spanB lo hi = false by simp [spanB, h1])
    go_enter Try.func85, Try.ntmps85
    go_wp2
    go_ret
    refine ⟨by rw [HS.out]; rfl, ?_⟩
    (repeat' (first | (with_reducible exact Below.refl _ _) | (with_reducible assumption) | (with_reducible refine Below.alloc ?_ ?_ _) | (with_reducible refine Below.drew ?_) | (with_reducible refine below_drewN ?_ _) | (with_reducible refine Below.setCell ?_ ?_ _) | (with_reducible refine below_setRow ?_ ?_ _) | go_size))
theorem rvalid_any (lo hi : Int) (w : World) :
    Calls Try.prog 87 #[.agg #[.int .i64 lo, .int .i64 hi]] w fun e w' => e = .returned (.bool (spanB lo hi)) ∧ Below w.heap.size w w' := by
  by_cases h1 : -1152921504606846976 ≤ lo
  · by_cases h2 : lo ≤ hi
    · have HS := hid (show spanB lo hi = decide (hi ≤ 1152921504606846976) by simp [spanB, h1, h2])
      go_enter Try.func87, Try.ntmps87
      go_wp2
      go_ret
      refine ⟨by rw [HS.out]; rfl, ?_⟩
      (repeat' (first | (with_reducible exact Below.refl _ _) | (with_reducible assumption) | (with_reducible refine Below.alloc ?_ ?_ _) | (with_reducible refine Below.drew ?_) | (with_reducible refine below_drewN ?_ _) | (with_reducible refine Below.setCell ?_ ?_ _) | (with_reducible refine below_setRow ?_ ?_ _) | go_size))
    · have HS := hid (show spanB lo hi = false by simp [spanB, h2])
      go_enter Try.func87, Try.ntmps87
      go_wp2
      go_ret
      refine ⟨by rw [HS.out]; rfl, ?_⟩
      (repeat' (first | (with_reducible exact Below.refl _ _) | (with_reducible assumption) | (with_reducible refine Below.alloc ?_ ?_ _) | (with_reducible refine Below.drew ?_) | (with_reducible refine below_drewN ?_ _) | (with_reducible refine Below.setCell ?_ ?_ _) | (with_reducible refine below_setRow ?_ ?_ _) | go_size))
  · have HS := hid (show spanB lo hi = false by simp [spanB, h1])
    go_enter Try.func87, Try.ntmps87
    go_wp2
    go_ret
    refine ⟨by rw [HS.out]; rfl, ?_⟩
    (repeat' (first | (with_reducible exact Below.refl _ _) | (with_reducible assumption) | (with_reducible refine Below.alloc ?_ ?_ _) | (with_reducible refine Below.drew ?_) | (with_reducible refine below_drewN ?_ _) | (with_reducible refine Below.setCell ?_ ?_ _) | (with_reducible refine below_setRow ?_ ?_ _) | go_size))
theorem rinside_any (lo hi lo' hi' : Int) (w : World) :
    Calls Try.prog 86 #[.agg #[.int .i64 lo, .int .i64 hi], .agg #[.int .i64 lo', .int .i64 hi']] w fun e w' => e = .returned (.bool (insB lo hi lo' hi')) ∧ Below w.heap.size w w' := by
  by_cases h0 : spanB lo hi = true
  · by_cases h1 : lo' ≤ lo
    · have HS := hid (show insB lo hi lo' hi' = decide (hi ≤ hi') by simp [insB, h0, h1])
      have H0 := hid h0
      clear h0
      go_enter Try.func86, Try.ntmps86
      go_wp2_with fail
      refine (rvalid_any _ _ _).mono ?_
      rintro r w1 ⟨rfl, hb⟩
      rw [H0.out]
      have HB := hid ((by refine Below.trans ?_ (hb.mono ?_); (focus ((repeat' (first | (with_reducible exact Below.refl _ _) | (with_reducible assumption) | (with_reducible refine Below.alloc ?_ ?_ _) | (with_reducible refine Below.drew ?_) | (with_reducible refine below_drewN ?_ _) | (with_reducible refine Below.setCell ?_ ?_ _) | (with_reducible refine below_setRow ?_ ?_ _) | go_size)); done)); (focus (first | (simp; done) | (simp; omega)))) : Below w.heap.size w w1)
      obtain ⟨hc, hf⟩ := bcell hb
      clear hb
      go_wp2
      go_ret
      exact ⟨by rw [HS.out]; rfl, HB.out⟩
    · have HS := hid (show insB lo hi lo' hi' = false by simp [insB, h1])
      have H0 := hid h0
      clear h0
      go_enter Try.func86, Try.ntmps86
      go_wp2_with fail
      refine (rvalid_any _ _ _).mono ?_
      rintro r w1 ⟨rfl, hb⟩
      rw [H0.out]
      have HB := hid ((by refine Below.trans ?_ (hb.mono ?_); (focus ((repeat' (first | (with_reducible exact Below.refl _ _) | (with_reducible assumption) | (with_reducible refine Below.alloc ?_ ?_ _) | (with_reducible refine Below.drew ?_) | (with_reducible refine below_drewN ?_ _) | (with_reducible refine Below.setCell ?_ ?_ _) | (with_reducible refine below_setRow ?_ ?_ _) | go_size)); done)); (focus (first | (simp; done) | (simp; omega)))) : Below w.heap.size w w1)
      obtain ⟨hc, hf⟩ := bcell hb
      clear hb
      go_wp2
      go_ret
      exact ⟨by rw [HS.out]; rfl, HB.out⟩
  · have HS := hid (show insB lo hi lo' hi' = false by simp [insB, h0])
    have H0 := hid (Bool.eq_false_iff.2 h0)
    clear h0
    go_enter Try.func86, Try.ntmps86
    go_wp2_with fail
    refine (rvalid_any _ _ _).mono ?_
    rintro r w1 ⟨rfl, hb⟩
    rw [H0.out]
    have HB := hid ((by refine Below.trans ?_ (hb.mono ?_); (focus ((repeat' (first | (with_reducible exact Below.refl _ _) | (with_reducible assumption) | (with_reducible refine Below.alloc ?_ ?_ _) | (with_reducible refine Below.drew ?_) | (with_reducible refine below_drewN ?_ _) | (with_reducible refine Below.setCell ?_ ?_ _) | (with_reducible refine below_setRow ?_ ?_ _) | go_size)); done)); (focus (first | (simp; done) | (simp; omega)))) : Below w.heap.size w w1)
    clear hb
    go_wp2
    go_ret
    exact ⟨by rw [HS.out]; rfl, HB.out⟩

/-- a box inside another one -/
def boxB (ax aX ay aY az aZ bx bX by' bY bz bZ : Int) : Bool := insB ax aX bx bX && insB ay aY by' bY && insB az aZ bz bZ

set_option maxRecDepth 100000 in
theorem rInside_any (ax aX ay aY az aZ bx bX by' bY bz bZ : Int) (w : World) :
    Calls Try.prog 31 #[.agg #[.int .i64 ax, .int .i64 aX, .int .i64 ay, .int .i64 aY, .int .i64 az, .int .i64 aZ], .agg #[.int .i64 bx, .int .i64 bX, .int .i64 by', .int .i64 bY, .int .i64 bz, .int .i64 bZ]] w fun e w' => e = .returned (.bool (boxB ax aX ay aY az aZ bx bX by' bY bz bZ)) ∧ Below w.heap.size w w' := by
  by_cases h1 : insB ax aX bx bX = true
  · by_cases h2 : insB ay aY by' bY = true
    · have HS := hid (show boxB ax aX ay aY az aZ bx bX by' bY bz bZ = insB az aZ bz bZ by simp [boxB, h1, h2])
      have H1 := hid h1
      have H2 := hid h2
      clear h1 h2
      go_enter Try.func31, Try.ntmps31
      go_wp2_with fail
      refine (rinside_any _ _ _ _ _).mono ?_
      rintro r w1 ⟨rfl, hb⟩
      have HBw1 := hid ((by refine Below.trans ?_ (hb.mono ?_); (focus ((repeat' (first | (with_reducible exact Below.refl _ _) | (with_reducible assumption) | (with_reducible refine Below.alloc ?_ ?_ _) | (with_reducible refine Below.drew ?_) | (with_reducible refine below_drewN ?_ _) | (with_reducible refine Below.setCell ?_ ?_ _) | (with_reducible refine below_setRow ?_ ?_ _) | go_size)); done)); (focus (first | (simp; done) | (simp; omega)))) : Below w.heap.size w w1)
      have hsw1 := hb.size
      (try simp at hsw1)
      have hzw1 : w.heap.size < w1.heap.size := by omega
      obtain ⟨hcw1, hfw1⟩ := bcell hb
      clear hb
      rw [H1.out]
      have hy1 : w.heap.size + 1 < w1.heap.size := by omega
      go_wp2_with fail
      refine (rinside_any _ _ _ _ _).mono ?_
      rintro r w2 ⟨rfl, hb⟩
      have HBw2 := hid (HBw1.out.trans (hb.mono HBw1.out.size))
      have hsw2 := hb.size
      (try simp at hsw2)
      have hzw2 : w.heap.size < w2.heap.size := by omega
      obtain ⟨hcw2, hfw2⟩ := bcell hb
      clear hb
      rw [H2.out]
      have hy2 : w.heap.size + 1 < w2.heap.size := by omega
      go_wp2_with fail
      refine (rinside_any _ _ _ _ _).mono ?_
      rintro r w3 ⟨rfl, hb⟩
      have HBw3 := hid (HBw2.out.trans (hb.mono HBw2.out.size))
      have hsw3 := hb.size
      (try simp at hsw3)
      have hzw3 : w.heap.size < w3.heap.size := by omega
      obtain ⟨hcw3, hfw3⟩ := bcell hb
      clear hb
      go_wp2_with fail
      go_ret
      exact ⟨by rw [HS.out]; rfl, HBw3.out⟩
    · have HS := hid (show boxB ax aX ay aY az aZ bx bX by' bY bz bZ = false by simp [boxB, h2])
      have H1 := hid h1
      have H2 := hid (Bool.eq_false_iff.2 h2)
      clear h1 h2
      go_enter Try.func31, Try.ntmps31
      go_wp2_with fail
      refine (rinside_any _ _ _ _ _).mono ?_
      rintro r w1 ⟨rfl, hb⟩
      have HBw1 := hid ((by refine Below.trans ?_ (hb.mono ?_); (focus ((repeat' (first | (with_reducible exact Below.refl _ _) | (with_reducible assumption) | (with_reducible refine Below.alloc ?_ ?_ _) | (with_reducible refine Below.drew ?_) | (with_reducible refine below_drewN ?_ _) | (with_reducible refine Below.setCell ?_ ?_ _) | (with_reducible refine below_setRow ?_ ?_ _) | go_size)); done)); (focus (first | (simp; done) | (simp; omega)))) : Below w.heap.size w w1)
      have hsw1 := hb.size
      (try simp at hsw1)
      have hzw1 : w.heap.size < w1.heap.size := by omega
      obtain ⟨hcw1, hfw1⟩ := bcell hb
      clear hb
      rw [H1.out]
      go_wp2_with fail
      refine (rinside_any _ _ _ _ _).mono ?_
      rintro r w2 ⟨rfl, hb⟩
      have HBw2 := hid (HBw1.out.trans (hb.mono HBw1.out.size))
      have hsw2 := hb.size
      (try simp at hsw2)
      have hzw2 : w.heap.size < w2.heap.size := by omega
      obtain ⟨hcw2, hfw2⟩ := bcell hb
      clear hb
      rw [H2.out]
      go_wp2_with fail
      go_ret
      exact ⟨by rw [HS.out]; rfl, HBw2.out⟩
  · have HS := hid (show boxB ax aX ay aY az aZ bx bX by' bY bz bZ = false by simp [boxB, h1])
    have H1 := hid (Bool.eq_false_iff.2 h1)
    clear h1
    go_enter Try.func31, Try.ntmps31
    go_wp2_with fail
    refine (rinside_any _ _ _ _ _).mono ?_
    rintro r w1 ⟨rfl, hb⟩
    have HBw1 := hid ((by refine Below.trans ?_ (hb.mono ?_); (focus ((repeat' (first | (with_reducible exact Below.refl _ _) | (with_reducible assumption) | (with_reducible refine Below.alloc ?_ ?_ _) | (with_reducible refine Below.drew ?_) | (with_reducible refine below_drewN ?_ _) | (with_reducible refine Below.setCell ?_ ?_ _) | (with_reducible refine below_setRow ?_ ?_ _) | go_size)); done)); (focus (first | (simp; done) | (simp; omega)))) : Below w.heap.size w w1)
    have hsw1 := hb.size
    (try simp at hsw1)
    have hzw1 : w.heap.size < w1.heap.size := by omega
    obtain ⟨hcw1, hfw1⟩ := bcell hb
    clear hb
    rw [H1.out]
    go_wp2_with fail
    go_ret
    exact ⟨by rw [HS.out]; rfl, HBw1.out⟩

/-- a place in a box -/
def holdsB (ax aX ay aY az aZ x y z : Int) : Bool := inB ax aX x && inB ay aY y && inB az aZ z
set_option maxRecDepth 100000 in
theorem rHolds_any (ax aX ay aY az aZ x y z : Int) (w : World) :
    Calls Try.prog 33 #[.agg #[.int .i64 ax, .int .i64 aX, .int .i64 ay, .int .i64 aY, .int .i64 az, .int .i64 aZ], .int .i64 x, .int .i64 y, .int .i64 z] w fun e w' => e = .returned (.bool (holdsB ax aX ay aY az aZ x y z)) ∧ Below w.heap.size w w' := by
  by_cases h1 : inB ax aX x = true
  · by_cases h2 : inB ay aY y = true
    · have HS := hid (show holdsB ax aX ay aY az aZ x y z = inB az aZ z by simp [holdsB, h1, h2])
      have H1 := hid h1
      have H2 := hid h2
      clear h1 h2
      go_enter Try.func33, Try.ntmps33
      go_wp2_with fail
      refine (from_any _ _ _ _).mono ?_
      rintro r w1 ⟨rfl, rfl⟩
      rw [H1.out]
      go_wp2_with fail
      refine (from_any _ _ _ _).mono ?_
      rintro r w1 ⟨rfl, rfl⟩
      rw [H2.out]
      go_wp2_with fail
      refine (from_any _ _ _ _).mono ?_
      rintro r w1 ⟨rfl, rfl⟩
      go_wp2_with fail
      go_ret
      refine ⟨by rw [HS.out]; rfl, ?_⟩
      (repeat' (first | (with_reducible exact Below.refl _ _) | (with_reducible assumption) | (with_reducible refine Below.alloc ?_ ?_ _) | (with_reducible refine Below.drew ?_) | (with_reducible refine below_drewN ?_ _) | (with_reducible refine Below.setCell ?_ ?_ _) | (with_reducible refine below_setRow ?_ ?_ _) | go_size))
    · have HS := hid (show holdsB ax aX ay aY az aZ x y z = false by simp [holdsB, h2])
      have H1 := hid h1
      have H2 := hid (Bool.eq_false_iff.2 h2)
      clear h1 h2
      go_enter Try.func33, Try.ntmps33
      go_wp2_with fail
      refine (from_any _ _ _ _).mono ?_
      rintro r w1 ⟨rfl, rfl⟩
      rw [H1.out]
      go_wp2_with fail
      refine (from_any _ _ _ _).mono ?_
      rintro r w1 ⟨rfl, rfl⟩
      rw [H2.out]
      go_wp2_with fail
      go_ret
      refine ⟨by rw [HS.out]; rfl, ?_⟩
      (repeat' (first | (with_reducible exact Below.refl _ _) | (with_reducible assumption) | (with_reducible refine Below.alloc ?_ ?_ _) | (with_reducible refine Below.drew ?_) | (with_reducible refine below_drewN ?_ _) | (with_reducible refine Below.setCell ?_ ?_ _) | (with_reducible refine below_setRow ?_ ?_ _) | go_size))
  · have HS := hid (show holdsB ax aX ay aY az aZ x y z = false by simp [holdsB, h1])
    have H1 := hid (Bool.eq_false_iff.2 h1)
    clear h1
    go_enter Try.func33, Try.ntmps33
    go_wp2_with fail
    refine (from_any _ _ _ _).mono ?_
    rintro r w1 ⟨rfl, rfl⟩
    rw [H1.out]
    go_wp2_with fail
    go_ret
    refine ⟨by rw [HS.out]; rfl, ?_⟩
    (repeat' (first | (with_reducible exact Below.refl _ _) | (with_reducible assumption) | (with_reducible refine Below.alloc ?_ ?_ _) | (with_reducible refine Below.drew ?_) | (with_reducible refine below_drewN ?_ _) | (with_reducible refine Below.setCell ?_ ?_ _) | (with_reducible refine below_setRow ?_ ?_ _) | go_size))
theorem within1 (lo hi x : Int) (b c : Nat) (w : World) (hc : w.cell? ⟨b, 0, none⟩ = some (.int .i64 x)) :
    Calls Try.prog 72 #[.int .i64 lo, .int .i64 hi, .slice (some ⟨b, 0, none⟩) 1 c] w fun e w' => e = .returned (.bool (inB lo hi x)) ∧ w = w' := by
  refine (within_any lo hi b 0 1 c [x] w rfl (by omega) ?_).mono ?_
  · intro i hi
    obtain rfl : i = 0 := by omega
    exact hc
  · rintro e w' ⟨rfl, rfl⟩
    simp
set_option maxRecDepth 100000 in
theorem xHolds_any (ax aX ay aY az aZ x y z : Int) (w : World) :
    Calls Try.prog 32 #[.agg #[.int .i64 ax, .int .i64 aX, .int .i64 ay, .int .i64 aY, .int .i64 az, .int .i64 aZ], .int .i64 x, .int .i64 y, .int .i64 z] w fun e w' => e = .returned (.bool (holdsB ax aX ay aY az aZ x y z)) ∧ Below w.heap.size w w' := by
  by_cases h1 : inB ax aX x = true
  · by_cases h2 : inB ay aY y = true
    · have HS := hid (show holdsB ax aX ay aY az aZ x y z = inB az aZ z by simp [holdsB, h1, h2])
      have H1 := hid h1
      have H2 := hid h2
      clear h1 h2
      go_enter Try.func32, Try.ntmps32
      go_wp2_with fail
      refine (within1 _ _ x _ _ _ ?_).mono ?_
      focus first | (simp; done) | (simp [go_sem]; done)
      rintro r w1 ⟨rfl, rfl⟩
      rw [H1.out]
      go_wp2_with fail
      refine (within1 _ _ y _ _ _ ?_).mono ?_
      focus first | (simp; done) | (simp [go_sem]; done)
      rintro r w1 ⟨rfl, rfl⟩
      rw [H2.out]
      go_wp2_with fail
      refine (within1 _ _ z _ _ _ ?_).mono ?_
      focus first | (simp; done) | (simp [go_sem]; done)
      rintro r w1 ⟨rfl, rfl⟩
      go_wp2_with fail
      go_ret
      refine ⟨by rw [HS.out]; rfl, ?_⟩
      (repeat' (first | (with_reducible exact Below.refl _ _) | (with_reducible assumption) | (with_reducible refine Below.alloc ?_ ?_ _) | (with_reducible refine Below.drew ?_) | (with_reducible refine below_drewN ?_ _) | (with_reducible refine Below.setCell ?_ ?_ _) | (with_reducible refine below_setRow ?_ ?_ _) | go_size))
    · have HS := hid (show holdsB ax aX ay aY az aZ x y z = false by simp [holdsB, h2])
      have H1 := hid h1
      have H2 := hid (Bool.eq_false_iff.2 h2)
      clear h1 h2
      go_enter Try.func32, Try.ntmps32
      go_wp2_with fail
      refine (within1 _ _ x _ _ _ ?_).mono ?_
      focus first | (simp; done) | (simp [go_sem]; done)
      rintro r w1 ⟨rfl, rfl⟩
      rw [H1.out]
      go_wp2_with fail
      refine (within1 _ _ y _ _ _ ?_).mono ?_
      focus first | (simp; done) | (simp [go_sem]; done)
      rintro r w1 ⟨rfl, rfl⟩
      rw [H2.out]
      go_wp2_with fail
      go_ret
      refine ⟨by rw [HS.out]; rfl, ?_⟩
      (repeat' (first | (with_reducible exact Below.refl _ _) | (with_reducible assumption) | (with_reducible refine Below.alloc ?_ ?_ _) | (with_reducible refine Below.drew ?_) | (with_reducible refine below_drewN ?_ _) | (with_reducible refine Below.setCell ?_ ?_ _) | (with_reducible refine below_setRow ?_ ?_ _) | go_size))
  · have HS := hid (show holdsB ax aX ay aY az aZ x y z = false by simp [holdsB, h1])
    have H1 := hid (Bool.eq_false_iff.2 h1)
    clear h1
    go_enter Try.func32, Try.ntmps32
    go_wp2_with fail
    refine (within1 _ _ x _ _ _ ?_).mono ?_
    focus first | (simp; done) | (simp [go_sem]; done)
    rintro r w1 ⟨rfl, rfl⟩
    rw [H1.out]
    go_wp2_with fail
    go_ret
    refine ⟨by rw [HS.out]; rfl, ?_⟩
    (repeat' (first | (with_reducible exact Below.refl _ _) | (with_reducible assumption) | (with_reducible refine Below.alloc ?_ ?_ _) | (with_reducible refine Below.drew ?_) | (with_reducible refine below_drewN ?_ _) | (with_reducible refine Below.setCell ?_ ?_ _) | (with_reducible refine below_setRow ?_ ?_ _) | go_size))

theorem insB_of {lo hi lo' hi' : Int} (h : spanB lo hi = true) : ([lo, hi].all (inB lo' hi')) = insB lo hi lo' hi' := by
  have h2 : lo ≤ hi := by simp [spanB] at h; omega
  unfold insB
  rw [h, Bool.true_and, Bool.eq_iff_iff]
  simp [inB]
  omega
theorem size139 : (Try.prog.info? 139).map (·.size) = some 12 := by kernel_rfl
theorem size138 : (Try.prog.info? 138).map (·.size) = some 4 := by kernel_rfl
theorem size44 : (Try.prog.info? 44).map (·.size) = some 2 := by kernel_rfl
theorem size46 : (Try.prog.info? 46).map (·.size) = some 6 := by kernel_rfl
theorem index139 (ax aX ay aY az aZ bx bX by' bY bz bZ : Int) (k : Nat) (hk : k < 3) (W : World) :
    (Instr.index 139 (.agg #[.int .i64 ax, .int .i64 aX, .int .i64 bx, .int .i64 bX, .int .i64 ay, .int .i64 aY, .int .i64 by', .int .i64 bY, .int .i64 az, .int .i64 aZ, .int .i64 bz, .int .i64 bZ]) (.int .i64 (k : Int))).run Try.prog W =
      .ok (.agg #[.int .i64 ([ax, ay, az].getD k 0), .int .i64 ([aX, aY, aZ].getD k 0), .int .i64 ([bx, by', bz].getD k 0), .int .i64 ([bX, bY, bZ].getD k 0)]) W := by
  have e : k = 0 ∨ k = 1 ∨ k = 2 := by omega
  rcases e with rfl | rfl | rfl
  · exact (show (Instr.index 139 (.agg #[.int .i64 ax, .int .i64 aX, .int .i64 bx, .int .i64 bX, .int .i64 ay, .int .i64 aY, .int .i64 by', .int .i64 bY, .int .i64 az, .int .i64 aZ, .int .i64 bz, .int .i64 bZ]) (.int .i64 0)).run Try.prog W = .ok (.agg #[.int .i64 ax, .int .i64 aX, .int .i64 bx, .int .i64 bX]) W by kernel_rfl)
  · exact (show (Instr.index 139 (.agg #[.int .i64 ax, .int .i64 aX, .int .i64 bx, .int .i64 bX, .int .i64 ay, .int .i64 aY, .int .i64 by', .int .i64 bY, .int .i64 az, .int .i64 aZ, .int .i64 bz, .int .i64 bZ]) (.int .i64 1)).run Try.prog W = .ok (.agg #[.int .i64 ay, .int .i64 aY, .int .i64 by', .int .i64 bY]) W by kernel_rfl)
  · exact (show (Instr.index 139 (.agg #[.int .i64 ax, .int .i64 aX, .int .i64 bx, .int .i64 bX, .int .i64 ay, .int .i64 aY, .int .i64 by', .int .i64 bY, .int .i64 az, .int .i64 aZ, .int .i64 bz, .int .i64 bZ]) (.int .i64 2)).run Try.prog W = .ok (.agg #[.int .i64 az, .int .i64 aZ, .int .i64 bz, .int .i64 bZ]) W by kernel_rfl)
/-- the box's spans in their order: the first k are inside -/
def boxTo (ax aX ay aY az aZ bx bX by' bY bz bZ : Int) (k : Nat) : Prop := ∀ j, j < k → insB ([ax, ay, az].getD j 0) ([aX, aY, aZ].getD j 0) ([bx, by', bz].getD j 0) ([bX, bY, bZ].getD j 0) = true
theorem boxTo_succ {ax aX ay aY az aZ bx bX by' bY bz bZ : Int} {k : Nat} (h : boxTo ax aX ay aY az aZ bx bX by' bY bz bZ k) (h1 : insB ([ax, ay, az].getD k 0) ([aX, aY, aZ].getD k 0) ([bx, by', bz].getD k 0) ([bX, bY, bZ].getD k 0) = true) :
    boxTo ax aX ay aY az aZ bx bX by' bY bz bZ (k + 1) := by
  intro j hj
  by_cases e : j = k
  · subst e; exact h1
  · exact h j (by omega)
theorem boxTo_3 {ax aX ay aY az aZ bx bX by' bY bz bZ : Int} (h : boxTo ax aX ay aY az aZ bx bX by' bY bz bZ 3) : boxB ax aX ay aY az aZ bx bX by' bY bz bZ = true := by
  have h0 := h 0 (by omega)
  have h1 := h 1 (by omega)
  have h2 := h 2 (by omega)
  simp at h0 h1 h2
  simp [boxB, h0, h1, h2]
theorem boxTo_no {ax aX ay aY az aZ bx bX by' bY bz bZ : Int} {k : Nat} (hk : k < 3) (h1 : insB ([ax, ay, az].getD k 0) ([aX, aY, aZ].getD k 0) ([bx, by', bz].getD k 0) ([bX, bY, bZ].getD k 0) = false) : boxB ax aX ay aY az aZ bx bX by' bY bz bZ = false := by
  have e : k = 0 ∨ k = 1 ∨ k = 2 := by omega
  rcases e with rfl | rfl | rfl <;> simp at h1 <;> simp [boxB, h1]

set_option maxRecDepth 100000 in
set_option maxHeartbeats 800000 in
theorem xInside_any (ax aX ay aY az aZ bx bX by' bY bz bZ : Int) (w : World) :
    Calls Try.prog 30 #[.agg #[.int .i64 ax, .int .i64 aX, .int .i64 ay, .int .i64 aY, .int .i64 az, .int .i64 aZ], .agg #[.int .i64 bx, .int .i64 bX, .int .i64 by', .int .i64 bY, .int .i64 bz, .int .i64 bZ]] w fun e w' => e = .returned (.bool (boxB ax aX ay aY az aZ bx bX by' bY bz bZ)) ∧ Below w.heap.size w w' := by
  go_enter Try.func30, Try.ntmps30
  go_wp2_with (refine wpList_store_new rfl 139 (.tmp 5) (.tmp 23) rfl rfl rfl ?_ size139 rfl rfl rfl ?_; (focus (simp; done)))
  refine gen_world (fun W hW => ?_)
  have hb := hid (show Below w.heap.size w W by rw [hW]; (repeat' (first | (with_reducible exact Below.refl _ _) | (with_reducible assumption) | (with_reducible refine Below.alloc ?_ ?_ _) | (with_reducible refine Below.drew ?_) | (with_reducible refine below_drewN ?_ _) | (with_reducible refine Below.setCell ?_ ?_ _) | (with_reducible refine below_setRow ?_ ?_ _) | go_size)))
  have hs := hid (show W.heap.size = w.heap.size + 3 by rw [hW]; simp)
  clear hW
  go_loopw [25] (fun i wr => ∃ k : Nat, k ≤ 3 ∧ i = .int .i64 k ∧ boxTo ax aX ay aY az aZ bx bX by' bY bz bZ k ∧ Below W.heap.size W wr) (fun i _ => 3 - (intOf i).toNat)
  case atStart => exact ⟨0, by omega, rfl, (fun j hj => by omega), Below.refl _ _⟩
  case round =>
    obtain ⟨k, hk, rfl, hto, hbr⟩ := hrel
    have HT := hid hto; clear hto
    have HR := hid hbr; clear hbr
    by_cases hlt : k < 3
    · have hix := index139 ax aX ay aY az aZ bx bX by' bY bz bZ k hlt
      have HS := hid (@boxTo_succ ax aX ay aY az aZ bx bX by' bY bz bZ k HT.out)
      have HN := hid (@boxTo_no ax aX ay aY az aZ bx bX by' bY bz bZ k hlt)
      generalize [ax, ay, az].getD k 0 = l at *
      generalize [aX, aY, aZ].getD k 0 = h at *
      generalize [bx, by', bz].getD k 0 = l' at *
      generalize [bX, bY, bZ].getD k 0 = h' at *
      by_cases h1 : spanB l h = true
      · have HI := hid (insB_of (lo' := l') (hi' := h') h1)
        have H1 := hid h1; clear h1
        go_wp2_with fail
        refine (valid_any _ _ _).mono ?_
        rintro r w1 ⟨rfl, hb1⟩
        rw [H1.out]
        have HB1 := hid (show Below W.heap.size W w1 from (HR.out.alloc HR.out.size _).trans (hb1.mono (by have := HR.out.size; simp; omega)))
        have hz := hb1.size
        simp at hz
        obtain ⟨hc, hf⟩ := bcell hb1
        clear hb1
        go_wp2_with fail
        refine (within_any _ _ _ _ _ _ [l, h] _ rfl (by simp) (cells_ints _ (by repeat' (first | (refine heap_alloc_at _ _ _ ?_; (first | rfl | (simp; done) | (simp; omega))) | (refine heap_alloc_past _ _ _ _ ?_))) rfl)).mono ?_
        rintro r w2 ⟨rfl, rfl⟩
        rw [HI.out]
        by_cases h2 : insB l h l' h' = true
        · have H2 := hid h2; clear h2
          rw [H2.out]
          go_wp2_with fail
          go_roundw
          case rel => exact ⟨k + 1, by omega, by go_num, HS.out H2.out, HB1.out.alloc HB1.out.size _⟩
          case measure => simp [intOf]; omega
        · have H2 := hid (Bool.eq_false_iff.2 h2); clear h2
          rw [H2.out]
          go_wp2_with fail
          go_ret
          exact ⟨by rw [HN.out H2.out]; rfl, hb.out.trans ((HB1.out.alloc HB1.out.size _).mono (by rw [hs.out]; omega))⟩
      · have HI := hid (show insB l h l' h' = false by simp [insB, h1])
        have H1 := hid (Bool.eq_false_iff.2 h1); clear h1
        go_wp2_with fail
        refine (valid_any _ _ _).mono ?_
        rintro r w1 ⟨rfl, hb1⟩
        rw [H1.out]
        have HB1 := hid (show Below W.heap.size W w1 from (HR.out.alloc HR.out.size _).trans (hb1.mono (by have := HR.out.size; simp; omega)))
        clear hb1
        go_wp2_with fail
        go_ret
        exact ⟨by rw [HN.out HI.out]; rfl, hb.out.trans (HB1.out.mono (by rw [hs.out]; omega))⟩
    · obtain rfl : k = 3 := by omega
      have HS := hid (boxTo_3 HT.out)
      go_wp2_with fail
      go_ret
      exact ⟨by rw [HS.out]; rfl, hb.out.trans (HR.out.mono (by rw [hs.out]; omega))⟩
end Go.Proofs.Yteoikaedpgianaa
