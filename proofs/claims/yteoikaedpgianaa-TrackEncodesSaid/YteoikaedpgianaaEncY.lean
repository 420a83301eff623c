/- The encoding of a record by the program: every record. -/
import Derived.Test.YteoikaedpgianaaEncX
namespace Go.Proofs.Yteoikaedpgianaa
open Go.RowKit

set_option maxRecDepth 100000 in
theorem encodeFix_no (t x y z e a b c d g s0 s1 s2 : Int) (w : World) (h1 : fixB t x y z e a b c d g = false) :
    Calls Try.prog 51 #[.agg #[.bool false, .int .i64 t, .int .i64 x, .int .i64 y, .int .i64 z, .int .i64 e, .int .i64 a, .int .i64 b, .int .i64 c, .int .i64 d, .int .i64 g, .int .i64 s0, .int .i64 s1, .int .i64 s2]] w fun r w' => Enc 40 [] r w' ∧ Below w.heap.size w w' := by
  have H1 := hid h1
  have HBw := hid (Below.refl w.heap.size w)
  clear h1
  go_enter Try.func51, Try.ntmps51
  go_wp2_with fail
  refine (xFix_any _ _ _ _ _ _ _ _ _ _ _).mono ?_
  rintro r w1 ⟨rfl, hb⟩
  have HBw1 := hid (show Below w.heap.size w w1 by have hB0 := HBw.out; refine Below.trans ?_ (hb.mono ?_); (focus ((repeat' (first | (with_reducible exact Below.refl _ _) | (with_reducible assumption) | (with_reducible refine Below.alloc ?_ ?_ _) | (with_reducible refine Below.drew ?_) | (with_reducible refine below_drewN ?_ _) | (with_reducible refine Below.setCell ?_ ?_ _) | (with_reducible refine below_setRow ?_ ?_ _) | go_size)); done)); (focus (first | (simp; done) | (simp; omega) | (have hB1 := hB0.size; simp; omega))))
  have hsw1 := hb.size
  (try simp at hsw1)
  have hzw1 : w.heap.size < w1.heap.size := by omega
  obtain ⟨hcw1, hfw1⟩ := bcell hb
  have hkw1 := hid (fun n x => @heap_still _ _ n x hb)
  clear hb
  rw [H1.out]
  go_wp2_with fail
  go_ret2
  exact ⟨⟨_, rfl, fun _ => rfl, fun h => absurd h (by decide)⟩, HBw1.out⟩
set_option maxRecDepth 100000 in
theorem encodeFix_off (t x y z e a b c d g s0 s1 s2 : Int) (w : World) (h1 : fixB t x y z e a b c d g = true) (h2 : ([s0, s1, s2] == [0, 0, 0]) = false) :
    Calls Try.prog 51 #[.agg #[.bool false, .int .i64 t, .int .i64 x, .int .i64 y, .int .i64 z, .int .i64 e, .int .i64 a, .int .i64 b, .int .i64 c, .int .i64 d, .int .i64 g, .int .i64 s0, .int .i64 s1, .int .i64 s2]] w fun r w' => Enc 2 [] r w' ∧ Below w.heap.size w w' := by
  have hq := eq57 s0 s1 s2 0 0 0
  rw [h2] at hq
  have H1 := hid h1
  have HBw := hid (Below.refl w.heap.size w)
  clear h1 h2
  go_enter Try.func51, Try.ntmps51
  go_wp2_with fail
  refine (xFix_any _ _ _ _ _ _ _ _ _ _ _).mono ?_
  rintro r w1 ⟨rfl, hb⟩
  have HBw1 := hid (show Below w.heap.size w w1 by have hB0 := HBw.out; refine Below.trans ?_ (hb.mono ?_); (focus ((repeat' (first | (with_reducible exact Below.refl _ _) | (with_reducible assumption) | (with_reducible refine Below.alloc ?_ ?_ _) | (with_reducible refine Below.drew ?_) | (with_reducible refine below_drewN ?_ _) | (with_reducible refine Below.setCell ?_ ?_ _) | (with_reducible refine below_setRow ?_ ?_ _) | go_size)); done)); (focus (first | (simp; done) | (simp; omega) | (have hB1 := hB0.size; simp; omega))))
  have hsw1 := hb.size
  (try simp at hsw1)
  have hzw1 : w.heap.size < w1.heap.size := by omega
  obtain ⟨hcw1, hfw1⟩ := bcell hb
  have hkw1 := hid (fun n x => @heap_still _ _ n x hb)
  clear hb
  rw [H1.out]
  go_wp2_with fail
  go_ret2
  exact ⟨⟨_, rfl, fun _ => rfl, fun h => absurd h (by decide)⟩, HBw1.out⟩
set_option maxRecDepth 100000 in
theorem encodeSync_arm (t x y z e a b c d g s0 s1 s2 : Int) (w : World) :
    Calls Try.prog 51 #[.agg #[.bool true, .int .i64 t, .int .i64 x, .int .i64 y, .int .i64 z, .int .i64 e, .int .i64 a, .int .i64 b, .int .i64 c, .int .i64 d, .int .i64 g, .int .i64 s0, .int .i64 s1, .int .i64 s2]] w
      fun r w' => Enc (if syncB s0 s1 s2 = false then 41 else if (ten t x y z e a b c d g == ten 0 0 0 0 0 0 0 0 0 0) = false then 2 else 0) ([1] ++ encs encU [s0, s1, s2]) r w' ∧ Below w.heap.size w w' := by
  have HBw := hid (Below.refl w.heap.size w)
  have HC := hid (fun W => encodeSync_any true t x y z e a b c d g s0 s1 s2 W)
  generalize (if syncB s0 s1 s2 = false then (41 : Int) else if (ten t x y z e a b c d g == ten 0 0 0 0 0 0 0 0 0 0) = false then 2 else 0) = er at *
  generalize [1] ++ encs encU [s0, s1, s2] = bs at *
  go_enter Try.func51, Try.ntmps51
  go_wp2_with fail
  refine (HC.out _).mono ?_
  rintro r w1 ⟨⟨v, rfl, h1, h2⟩, hb⟩
  have HB1 := hid ((by refine Below.trans ?_ (hb.mono ?_); (focus ((repeat' (first | (with_reducible exact Below.refl _ _) | (with_reducible assumption) | (with_reducible refine Below.alloc ?_ ?_ _) | (with_reducible refine Below.drew ?_) | (with_reducible refine below_drewN ?_ _) | (with_reducible refine Below.setCell ?_ ?_ _) | (with_reducible refine below_setRow ?_ ?_ _) | go_size)); done)); (focus (first | (simp; done) | (simp; omega)))) : Below w.heap.size w w1)
  have K1 := hid h1
  have K2 := hid h2
  clear h1 h2 hb
  go_wp2_with fail
  go_ret2
  exact ⟨⟨_, rfl, K1.out, K2.out⟩, HB1.out⟩
end Go.Proofs.Yteoikaedpgianaa
