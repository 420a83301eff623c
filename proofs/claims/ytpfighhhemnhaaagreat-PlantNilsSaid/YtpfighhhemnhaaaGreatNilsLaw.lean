/- PlantNils: what a nil and a zero plant return. Every input, no condition. (Printed by wip/gen_plants.py.) -/
import Derived.Test.YtpfighhhemnhaaaGreatNilP
import Derived.Test.YtpfighhhemnhaaaGreatH
import Derived.Test.YtpfighhhemnhaaaGreatK
import Derived.Test.YtpfighhhemnhaaaGreatJf
import Derived.SizedLaws
namespace Go.Proofs.YtpfighhhemnhaaaGreat
open Go.ChangeShapes Go.WideShapes Go.ChangeAt Go.RowKit Go.Maps Go.Sort

set_option maxRecDepth 100000 in
theorem long_any (g : Nat) (i f t : Int) (ea : Option Addr) (en ec : Nat) (w : World) (hen : en ≤ 9223372036854775807) (hg : w.heap[g]? = some (.cells #[.int .i64 i, .slice ea en ec, .int .i64 f, .int .i64 t] 44)) :
    Calls Tryz.prog 33 #[.slice (some ⟨g, 0, none⟩) 1 1] w fun r w' => (∃ b, r = .returned (.bool b)) ∧ Below w.heap.size w w' := by
  have HG := hid hg
  clear hg
  by_cases h80 : 80 < en
  · have d80 : decide ((80 : Int) < (en : Int)) = true := decide_eq_true (by omega)
    go_enter Tryz.func33, Tryz.ntmps33
    go_wp2_with fail
    go_loopw [7] (fun iv W => ∃ i : Nat, i ≤ 1 ∧ iv = .int .i64 (i : Int) ∧ Below w.heap.size w W) (fun iv _ => 1 - (intOf iv).toNat)
    case atStart => exact ⟨0, by omega, rfl, Below.refl _ _⟩
    case round =>
      obtain ⟨k, hk, rfl, hB⟩ := hrel
      have HB := hid hB
      have hz := hB.size
      clear hB
      by_cases hlt : k < 1
      · have e3 : decide ((k : Int) < 1) = true := decide_eq_true (by omega)
        obtain rfl : k = 0 := by omega
        have c0 : wr.cell? ⟨g, 0, none⟩ = some (.int .i64 i) := (cell_row (j := 0) (heap_still HB.out HG.out)).trans rfl
        have c1 : wr.cell? ⟨g, 1, none⟩ = some (.slice ea en ec) := (cell_row (j := 1) (heap_still HB.out HG.out)).trans rfl
        have c2 : wr.cell? ⟨g, 2, none⟩ = some (.int .i64 f) := (cell_row (j := 2) (heap_still HB.out HG.out)).trans rfl
        have c3 : wr.cell? ⟨g, 3, none⟩ = some (.int .i64 t) := (cell_row (j := 3) (heap_still HB.out HG.out)).trans rfl
        go_wp2_with fail
        first
        | (go_ret
           exact ⟨⟨_, rfl⟩, HB.out.alloc hz _⟩)
        | exact ⟨⟨1, by omega, by go_num, HB.out.alloc hz _⟩, by simp [intOf]⟩
      · have e3 : decide ((k : Int) < 1) = false := decide_eq_false (by omega)
        go_wp2_with fail
        go_ret
        exact ⟨⟨_, rfl⟩, HB.out⟩
  · have d80 : decide ((80 : Int) < (en : Int)) = false := decide_eq_false (by omega)
    go_enter Tryz.func33, Tryz.ntmps33
    go_wp2_with fail
    go_loopw [7] (fun iv W => ∃ i : Nat, i ≤ 1 ∧ iv = .int .i64 (i : Int) ∧ Below w.heap.size w W) (fun iv _ => 1 - (intOf iv).toNat)
    case atStart => exact ⟨0, by omega, rfl, Below.refl _ _⟩
    case round =>
      obtain ⟨k, hk, rfl, hB⟩ := hrel
      have HB := hid hB
      have hz := hB.size
      clear hB
      by_cases hlt : k < 1
      · have e3 : decide ((k : Int) < 1) = true := decide_eq_true (by omega)
        obtain rfl : k = 0 := by omega
        have c0 : wr.cell? ⟨g, 0, none⟩ = some (.int .i64 i) := (cell_row (j := 0) (heap_still HB.out HG.out)).trans rfl
        have c1 : wr.cell? ⟨g, 1, none⟩ = some (.slice ea en ec) := (cell_row (j := 1) (heap_still HB.out HG.out)).trans rfl
        have c2 : wr.cell? ⟨g, 2, none⟩ = some (.int .i64 f) := (cell_row (j := 2) (heap_still HB.out HG.out)).trans rfl
        have c3 : wr.cell? ⟨g, 3, none⟩ = some (.int .i64 t) := (cell_row (j := 3) (heap_still HB.out HG.out)).trans rfl
        go_wp2_with fail
        first
        | (go_ret
           exact ⟨⟨_, rfl⟩, HB.out.alloc hz _⟩)
        | exact ⟨⟨1, by omega, by go_num, HB.out.alloc hz _⟩, by simp [intOf]⟩
      · have e3 : decide ((k : Int) < 1) = false := decide_eq_false (by omega)
        go_wp2_with fail
        go_ret
        exact ⟨⟨_, rfl⟩, HB.out⟩
set_option maxRecDepth 100000 in
set_option maxHeartbeats 1600000 in
theorem big_any (x0 x1 x2 x4 x5 x6 x7 x8 x9 x10 x11 x13 x14 x15 x18 x19 x20 x21 x22 x23 x24 x25 x26 x27 x28 x29 x30 x31 : Int) (ba : Option Addr) (bn bc : Nat) (ea : Option Addr) (en ec : Nat) (oa : Option Addr) (on oc : Nat) (ca : Option Addr) (cn cc : Nat) (w : World) (hbn : bn ≤ 9223372036854775807) (hen : en ≤ 9223372036854775807) (hon : on ≤ 9223372036854775807) (hcn : cn ≤ 9223372036854775807) :
    Calls Tryz.prog 8 #[.agg #[.int .i64 x0, .int .i64 x1, .int .i64 x2, .slice ba bn bc, .int .i64 x4, .int .i64 x5, .int .i64 x6, .int .i64 x7, .int .i64 x8, .int .i64 x9, .int .i64 x10, .int .i64 x11, .slice ea en ec, .int .i64 x13, .int .i64 x14, .int .i64 x15, .slice oa on oc, .slice ca cn cc, .int .i64 x18, .int .i64 x19, .int .i64 x20, .int .i64 x21, .int .i64 x22, .int .i64 x23, .int .i64 x24, .int .i64 x25, .int .i64 x26, .int .i64 x27, .int .i64 x28, .int .i64 x29, .int .i64 x30, .int .i64 x31]] w fun r w' => (∃ b, r = .returned (.bool b)) ∧ Below w.heap.size w w' := by
  by_cases h26 : 5 < x26
  · have d26 : decide (5 < x26) = true := decide_eq_true h26
    by_cases hbn : 2048 < bn
    · have dbn : decide ((2048 : Int) < (bn : Int)) = true := decide_eq_true (by omega)
      go_enter Tryz.func8, Tryz.ntmps8
      go_wp2_with fail
      go_ret
      first | exact ⟨⟨_, rfl⟩, (Below.refl _ _).alloc (Nat.le_refl _) _⟩ | exact ⟨.inl rfl, (Below.refl _ _).alloc (Nat.le_refl _) _⟩ | exact ⟨.inr rfl, (Below.refl _ _).alloc (Nat.le_refl _) _⟩
    have dbn : decide ((2048 : Int) < (bn : Int)) = false := decide_eq_false (by omega)
    by_cases hon : 80 < on
    · have don : decide ((80 : Int) < (on : Int)) = true := decide_eq_true (by omega)
      go_enter Tryz.func8, Tryz.ntmps8
      go_upto_region 2 with fail
      refine gen_world (fun W0 hW0 => ?_)
      have KB := hid (show W0.heap[w.heap.size]? = some (.cells #[.int .i64 x0, .int .i64 x1, .int .i64 x2, .slice ba bn bc, .int .i64 x4, .int .i64 x5, .int .i64 x6, .int .i64 x7, .int .i64 x8, .int .i64 x9, .int .i64 x10, .int .i64 x11, .slice ea en ec, .int .i64 x13, .int .i64 x14, .int .i64 x15, .slice oa on oc, .slice ca cn cc, .int .i64 x18, .int .i64 x19, .int .i64 x20, .int .i64 x21, .int .i64 x22, .int .i64 x23, .int .i64 x24, .int .i64 x25, .int .i64 x26, .int .i64 x27, .int .i64 x28, .int .i64 x29, .int .i64 x30, .int .i64 x31] 54) by rw [hW0]; exact heap_alloc_at _ _ _ rfl)
      have HB0 := hid (show Below w.heap.size w W0 by rw [hW0]; exact (Below.refl _ _).alloc (Nat.le_refl _) _)
      clear hW0
      have c3 : W0.cell? ⟨w.heap.size, 3, none⟩ = some (.slice ba bn bc) := (cell_row (j := 3) KB.out).trans rfl
      have c11 : W0.cell? ⟨w.heap.size, 11, none⟩ = some (.int .i64 x11) := (cell_row (j := 11) KB.out).trans rfl
      have c12 : W0.cell? ⟨w.heap.size, 12, none⟩ = some (.slice ea en ec) := (cell_row (j := 12) KB.out).trans rfl
      have c13 : W0.cell? ⟨w.heap.size, 13, none⟩ = some (.int .i64 x13) := (cell_row (j := 13) KB.out).trans rfl
      have c14 : W0.cell? ⟨w.heap.size, 14, none⟩ = some (.int .i64 x14) := (cell_row (j := 14) KB.out).trans rfl
      go_wp2_with fail
      refine (long_any _ _ _ _ _ _ _ _ hen (heap_alloc_at _ _ _ rfl)).mono ?_
      rintro r w1 ⟨⟨lb, rfl⟩, hb⟩
      have KB1 := hid (heap_still hb (heap_alloc_past W0 (.cells #[.int .i64 x11, .slice ea en ec, .int .i64 x13, .int .i64 x14] 44) _ _ KB.out))
      have HB1 := hid (show Below w.heap.size w w1 from (HB0.out.alloc HB0.out.size _).trans (hb.mono (by have := HB0.out.size; simp; omega)))
      clear hb c3 c11 c12 c13 c14
      have c16 : w1.cell? ⟨w.heap.size, 16, none⟩ = some (.slice oa on oc) := (cell_row (j := 16) KB1.out).trans rfl
      have c17 : w1.cell? ⟨w.heap.size, 17, none⟩ = some (.slice ca cn cc) := (cell_row (j := 17) KB1.out).trans rfl
      cases lb
      all_goals
        go_wp2_with fail
        go_ret
        first | exact ⟨⟨_, rfl⟩, HB1.out⟩ | exact ⟨.inl rfl, HB1.out⟩ | exact ⟨.inr rfl, HB1.out⟩
    have don : decide ((80 : Int) < (on : Int)) = false := decide_eq_false (by omega)
    by_cases hcn : 40 < cn
    · have dcn : decide ((40 : Int) < (cn : Int)) = true := decide_eq_true (by omega)
      go_enter Tryz.func8, Tryz.ntmps8
      go_upto_region 2 with fail
      refine gen_world (fun W0 hW0 => ?_)
      have KB := hid (show W0.heap[w.heap.size]? = some (.cells #[.int .i64 x0, .int .i64 x1, .int .i64 x2, .slice ba bn bc, .int .i64 x4, .int .i64 x5, .int .i64 x6, .int .i64 x7, .int .i64 x8, .int .i64 x9, .int .i64 x10, .int .i64 x11, .slice ea en ec, .int .i64 x13, .int .i64 x14, .int .i64 x15, .slice oa on oc, .slice ca cn cc, .int .i64 x18, .int .i64 x19, .int .i64 x20, .int .i64 x21, .int .i64 x22, .int .i64 x23, .int .i64 x24, .int .i64 x25, .int .i64 x26, .int .i64 x27, .int .i64 x28, .int .i64 x29, .int .i64 x30, .int .i64 x31] 54) by rw [hW0]; exact heap_alloc_at _ _ _ rfl)
      have HB0 := hid (show Below w.heap.size w W0 by rw [hW0]; exact (Below.refl _ _).alloc (Nat.le_refl _) _)
      clear hW0
      have c3 : W0.cell? ⟨w.heap.size, 3, none⟩ = some (.slice ba bn bc) := (cell_row (j := 3) KB.out).trans rfl
      have c11 : W0.cell? ⟨w.heap.size, 11, none⟩ = some (.int .i64 x11) := (cell_row (j := 11) KB.out).trans rfl
      have c12 : W0.cell? ⟨w.heap.size, 12, none⟩ = some (.slice ea en ec) := (cell_row (j := 12) KB.out).trans rfl
      have c13 : W0.cell? ⟨w.heap.size, 13, none⟩ = some (.int .i64 x13) := (cell_row (j := 13) KB.out).trans rfl
      have c14 : W0.cell? ⟨w.heap.size, 14, none⟩ = some (.int .i64 x14) := (cell_row (j := 14) KB.out).trans rfl
      go_wp2_with fail
      refine (long_any _ _ _ _ _ _ _ _ hen (heap_alloc_at _ _ _ rfl)).mono ?_
      rintro r w1 ⟨⟨lb, rfl⟩, hb⟩
      have KB1 := hid (heap_still hb (heap_alloc_past W0 (.cells #[.int .i64 x11, .slice ea en ec, .int .i64 x13, .int .i64 x14] 44) _ _ KB.out))
      have HB1 := hid (show Below w.heap.size w w1 from (HB0.out.alloc HB0.out.size _).trans (hb.mono (by have := HB0.out.size; simp; omega)))
      clear hb c3 c11 c12 c13 c14
      have c16 : w1.cell? ⟨w.heap.size, 16, none⟩ = some (.slice oa on oc) := (cell_row (j := 16) KB1.out).trans rfl
      have c17 : w1.cell? ⟨w.heap.size, 17, none⟩ = some (.slice ca cn cc) := (cell_row (j := 17) KB1.out).trans rfl
      cases lb
      all_goals
        go_wp2_with fail
        go_ret
        first | exact ⟨⟨_, rfl⟩, HB1.out⟩ | exact ⟨.inl rfl, HB1.out⟩ | exact ⟨.inr rfl, HB1.out⟩
    have dcn : decide ((40 : Int) < (cn : Int)) = false := decide_eq_false (by omega)
    go_enter Tryz.func8, Tryz.ntmps8
    go_upto_region 2 with fail
    refine gen_world (fun W0 hW0 => ?_)
    have KB := hid (show W0.heap[w.heap.size]? = some (.cells #[.int .i64 x0, .int .i64 x1, .int .i64 x2, .slice ba bn bc, .int .i64 x4, .int .i64 x5, .int .i64 x6, .int .i64 x7, .int .i64 x8, .int .i64 x9, .int .i64 x10, .int .i64 x11, .slice ea en ec, .int .i64 x13, .int .i64 x14, .int .i64 x15, .slice oa on oc, .slice ca cn cc, .int .i64 x18, .int .i64 x19, .int .i64 x20, .int .i64 x21, .int .i64 x22, .int .i64 x23, .int .i64 x24, .int .i64 x25, .int .i64 x26, .int .i64 x27, .int .i64 x28, .int .i64 x29, .int .i64 x30, .int .i64 x31] 54) by rw [hW0]; exact heap_alloc_at _ _ _ rfl)
    have HB0 := hid (show Below w.heap.size w W0 by rw [hW0]; exact (Below.refl _ _).alloc (Nat.le_refl _) _)
    clear hW0
    have c3 : W0.cell? ⟨w.heap.size, 3, none⟩ = some (.slice ba bn bc) := (cell_row (j := 3) KB.out).trans rfl
    have c11 : W0.cell? ⟨w.heap.size, 11, none⟩ = some (.int .i64 x11) := (cell_row (j := 11) KB.out).trans rfl
    have c12 : W0.cell? ⟨w.heap.size, 12, none⟩ = some (.slice ea en ec) := (cell_row (j := 12) KB.out).trans rfl
    have c13 : W0.cell? ⟨w.heap.size, 13, none⟩ = some (.int .i64 x13) := (cell_row (j := 13) KB.out).trans rfl
    have c14 : W0.cell? ⟨w.heap.size, 14, none⟩ = some (.int .i64 x14) := (cell_row (j := 14) KB.out).trans rfl
    go_wp2_with fail
    refine (long_any _ _ _ _ _ _ _ _ hen (heap_alloc_at _ _ _ rfl)).mono ?_
    rintro r w1 ⟨⟨lb, rfl⟩, hb⟩
    have KB1 := hid (heap_still hb (heap_alloc_past W0 (.cells #[.int .i64 x11, .slice ea en ec, .int .i64 x13, .int .i64 x14] 44) _ _ KB.out))
    have HB1 := hid (show Below w.heap.size w w1 from (HB0.out.alloc HB0.out.size _).trans (hb.mono (by have := HB0.out.size; simp; omega)))
    clear hb c3 c11 c12 c13 c14
    have c16 : w1.cell? ⟨w.heap.size, 16, none⟩ = some (.slice oa on oc) := (cell_row (j := 16) KB1.out).trans rfl
    have c17 : w1.cell? ⟨w.heap.size, 17, none⟩ = some (.slice ca cn cc) := (cell_row (j := 17) KB1.out).trans rfl
    cases lb
    all_goals
      go_wp2_with fail
      go_ret
      first | exact ⟨⟨_, rfl⟩, HB1.out⟩ | exact ⟨.inl rfl, HB1.out⟩ | exact ⟨.inr rfl, HB1.out⟩
  have d26 : decide (5 < x26) = false := decide_eq_false h26
  by_cases h27 : 5 < x27
  · have d27 : decide (5 < x27) = true := decide_eq_true h27
    by_cases hbn : 2048 < bn
    · have dbn : decide ((2048 : Int) < (bn : Int)) = true := decide_eq_true (by omega)
      go_enter Tryz.func8, Tryz.ntmps8
      go_wp2_with fail
      go_ret
      first | exact ⟨⟨_, rfl⟩, (Below.refl _ _).alloc (Nat.le_refl _) _⟩ | exact ⟨.inl rfl, (Below.refl _ _).alloc (Nat.le_refl _) _⟩ | exact ⟨.inr rfl, (Below.refl _ _).alloc (Nat.le_refl _) _⟩
    have dbn : decide ((2048 : Int) < (bn : Int)) = false := decide_eq_false (by omega)
    by_cases hon : 80 < on
    · have don : decide ((80 : Int) < (on : Int)) = true := decide_eq_true (by omega)
      go_enter Tryz.func8, Tryz.ntmps8
      go_upto_region 2 with fail
      refine gen_world (fun W0 hW0 => ?_)
      have KB := hid (show W0.heap[w.heap.size]? = some (.cells #[.int .i64 x0, .int .i64 x1, .int .i64 x2, .slice ba bn bc, .int .i64 x4, .int .i64 x5, .int .i64 x6, .int .i64 x7, .int .i64 x8, .int .i64 x9, .int .i64 x10, .int .i64 x11, .slice ea en ec, .int .i64 x13, .int .i64 x14, .int .i64 x15, .slice oa on oc, .slice ca cn cc, .int .i64 x18, .int .i64 x19, .int .i64 x20, .int .i64 x21, .int .i64 x22, .int .i64 x23, .int .i64 x24, .int .i64 x25, .int .i64 x26, .int .i64 x27, .int .i64 x28, .int .i64 x29, .int .i64 x30, .int .i64 x31] 54) by rw [hW0]; exact heap_alloc_at _ _ _ rfl)
      have HB0 := hid (show Below w.heap.size w W0 by rw [hW0]; exact (Below.refl _ _).alloc (Nat.le_refl _) _)
      clear hW0
      have c3 : W0.cell? ⟨w.heap.size, 3, none⟩ = some (.slice ba bn bc) := (cell_row (j := 3) KB.out).trans rfl
      have c11 : W0.cell? ⟨w.heap.size, 11, none⟩ = some (.int .i64 x11) := (cell_row (j := 11) KB.out).trans rfl
      have c12 : W0.cell? ⟨w.heap.size, 12, none⟩ = some (.slice ea en ec) := (cell_row (j := 12) KB.out).trans rfl
      have c13 : W0.cell? ⟨w.heap.size, 13, none⟩ = some (.int .i64 x13) := (cell_row (j := 13) KB.out).trans rfl
      have c14 : W0.cell? ⟨w.heap.size, 14, none⟩ = some (.int .i64 x14) := (cell_row (j := 14) KB.out).trans rfl
      go_wp2_with fail
      refine (long_any _ _ _ _ _ _ _ _ hen (heap_alloc_at _ _ _ rfl)).mono ?_
      rintro r w1 ⟨⟨lb, rfl⟩, hb⟩
      have KB1 := hid (heap_still hb (heap_alloc_past W0 (.cells #[.int .i64 x11, .slice ea en ec, .int .i64 x13, .int .i64 x14] 44) _ _ KB.out))
      have HB1 := hid (show Below w.heap.size w w1 from (HB0.out.alloc HB0.out.size _).trans (hb.mono (by have := HB0.out.size; simp; omega)))
      clear hb c3 c11 c12 c13 c14
      have c16 : w1.cell? ⟨w.heap.size, 16, none⟩ = some (.slice oa on oc) := (cell_row (j := 16) KB1.out).trans rfl
      have c17 : w1.cell? ⟨w.heap.size, 17, none⟩ = some (.slice ca cn cc) := (cell_row (j := 17) KB1.out).trans rfl
      cases lb
      all_goals
        go_wp2_with fail
        go_ret
        first | exact ⟨⟨_, rfl⟩, HB1.out⟩ | exact ⟨.inl rfl, HB1.out⟩ | exact ⟨.inr rfl, HB1.out⟩
    have don : decide ((80 : Int) < (on : Int)) = false := decide_eq_false (by omega)
    by_cases hcn : 40 < cn
    · have dcn : decide ((40 : Int) < (cn : Int)) = true := decide_eq_true (by omega)
      go_enter Tryz.func8, Tryz.ntmps8
      go_upto_region 2 with fail
      refine gen_world (fun W0 hW0 => ?_)
      have KB := hid (show W0.heap[w.heap.size]? = some (.cells #[.int .i64 x0, .int .i64 x1, .int .i64 x2, .slice ba bn bc, .int .i64 x4, .int .i64 x5, .int .i64 x6, .int .i64 x7, .int .i64 x8, .int .i64 x9, .int .i64 x10, .int .i64 x11, .slice ea en ec, .int .i64 x13, .int .i64 x14, .int .i64 x15, .slice oa on oc, .slice ca cn cc, .int .i64 x18, .int .i64 x19, .int .i64 x20, .int .i64 x21, .int .i64 x22, .int .i64 x23, .int .i64 x24, .int .i64 x25, .int .i64 x26, .int .i64 x27, .int .i64 x28, .int .i64 x29, .int .i64 x30, .int .i64 x31] 54) by rw [hW0]; exact heap_alloc_at _ _ _ rfl)
      have HB0 := hid (show Below w.heap.size w W0 by rw [hW0]; exact (Below.refl _ _).alloc (Nat.le_refl _) _)
      clear hW0
      have c3 : W0.cell? ⟨w.heap.size, 3, none⟩ = some (.slice ba bn bc) := (cell_row (j := 3) KB.out).trans rfl
      have c11 : W0.cell? ⟨w.heap.size, 11, none⟩ = some (.int .i64 x11) := (cell_row (j := 11) KB.out).trans rfl
      have c12 : W0.cell? ⟨w.heap.size, 12, none⟩ = some (.slice ea en ec) := (cell_row (j := 12) KB.out).trans rfl
      have c13 : W0.cell? ⟨w.heap.size, 13, none⟩ = some (.int .i64 x13) := (cell_row (j := 13) KB.out).trans rfl
      have c14 : W0.cell? ⟨w.heap.size, 14, none⟩ = some (.int .i64 x14) := (cell_row (j := 14) KB.out).trans rfl
      go_wp2_with fail
      refine (long_any _ _ _ _ _ _ _ _ hen (heap_alloc_at _ _ _ rfl)).mono ?_
      rintro r w1 ⟨⟨lb, rfl⟩, hb⟩
      have KB1 := hid (heap_still hb (heap_alloc_past W0 (.cells #[.int .i64 x11, .slice ea en ec, .int .i64 x13, .int .i64 x14] 44) _ _ KB.out))
      have HB1 := hid (show Below w.heap.size w w1 from (HB0.out.alloc HB0.out.size _).trans (hb.mono (by have := HB0.out.size; simp; omega)))
      clear hb c3 c11 c12 c13 c14
      have c16 : w1.cell? ⟨w.heap.size, 16, none⟩ = some (.slice oa on oc) := (cell_row (j := 16) KB1.out).trans rfl
      have c17 : w1.cell? ⟨w.heap.size, 17, none⟩ = some (.slice ca cn cc) := (cell_row (j := 17) KB1.out).trans rfl
      cases lb
      all_goals
        go_wp2_with fail
        go_ret
        first | exact ⟨⟨_, rfl⟩, HB1.out⟩ | exact ⟨.inl rfl, HB1.out⟩ | exact ⟨.inr rfl, HB1.out⟩
    have dcn : decide ((40 : Int) < (cn : Int)) = false := decide_eq_false (by omega)
    go_enter Tryz.func8, Tryz.ntmps8
    go_upto_region 2 with fail
    refine gen_world (fun W0 hW0 => ?_)
    have KB := hid (show W0.heap[w.heap.size]? = some (.cells #[.int .i64 x0, .int .i64 x1, .int .i64 x2, .slice ba bn bc, .int .i64 x4, .int .i64 x5, .int .i64 x6, .int .i64 x7, .int .i64 x8, .int .i64 x9, .int .i64 x10, .int .i64 x11, .slice ea en ec, .int .i64 x13, .int .i64 x14, .int .i64 x15, .slice oa on oc, .slice ca cn cc, .int .i64 x18, .int .i64 x19, .int .i64 x20, .int .i64 x21, .int .i64 x22, .int .i64 x23, .int .i64 x24, .int .i64 x25, .int .i64 x26, .int .i64 x27, .int .i64 x28, .int .i64 x29, .int .i64 x30, .int .i64 x31] 54) by rw [hW0]; exact heap_alloc_at _ _ _ rfl)
    have HB0 := hid (show Below w.heap.size w W0 by rw [hW0]; exact (Below.refl _ _).alloc (Nat.le_refl _) _)
    clear hW0
    have c3 : W0.cell? ⟨w.heap.size, 3, none⟩ = some (.slice ba bn bc) := (cell_row (j := 3) KB.out).trans rfl
    have c11 : W0.cell? ⟨w.heap.size, 11, none⟩ = some (.int .i64 x11) := (cell_row (j := 11) KB.out).trans rfl
    have c12 : W0.cell? ⟨w.heap.size, 12, none⟩ = some (.slice ea en ec) := (cell_row (j := 12) KB.out).trans rfl
    have c13 : W0.cell? ⟨w.heap.size, 13, none⟩ = some (.int .i64 x13) := (cell_row (j := 13) KB.out).trans rfl
    have c14 : W0.cell? ⟨w.heap.size, 14, none⟩ = some (.int .i64 x14) := (cell_row (j := 14) KB.out).trans rfl
    go_wp2_with fail
    refine (long_any _ _ _ _ _ _ _ _ hen (heap_alloc_at _ _ _ rfl)).mono ?_
    rintro r w1 ⟨⟨lb, rfl⟩, hb⟩
    have KB1 := hid (heap_still hb (heap_alloc_past W0 (.cells #[.int .i64 x11, .slice ea en ec, .int .i64 x13, .int .i64 x14] 44) _ _ KB.out))
    have HB1 := hid (show Below w.heap.size w w1 from (HB0.out.alloc HB0.out.size _).trans (hb.mono (by have := HB0.out.size; simp; omega)))
    clear hb c3 c11 c12 c13 c14
    have c16 : w1.cell? ⟨w.heap.size, 16, none⟩ = some (.slice oa on oc) := (cell_row (j := 16) KB1.out).trans rfl
    have c17 : w1.cell? ⟨w.heap.size, 17, none⟩ = some (.slice ca cn cc) := (cell_row (j := 17) KB1.out).trans rfl
    cases lb
    all_goals
      go_wp2_with fail
      go_ret
      first | exact ⟨⟨_, rfl⟩, HB1.out⟩ | exact ⟨.inl rfl, HB1.out⟩ | exact ⟨.inr rfl, HB1.out⟩
  have d27 : decide (5 < x27) = false := decide_eq_false h27
  by_cases hbn : 2048 < bn
  · have dbn : decide ((2048 : Int) < (bn : Int)) = true := decide_eq_true (by omega)
    go_enter Tryz.func8, Tryz.ntmps8
    go_wp2_with fail
    go_ret
    first | exact ⟨⟨_, rfl⟩, (Below.refl _ _).alloc (Nat.le_refl _) _⟩ | exact ⟨.inl rfl, (Below.refl _ _).alloc (Nat.le_refl _) _⟩ | exact ⟨.inr rfl, (Below.refl _ _).alloc (Nat.le_refl _) _⟩
  have dbn : decide ((2048 : Int) < (bn : Int)) = false := decide_eq_false (by omega)
  by_cases hon : 80 < on
  · have don : decide ((80 : Int) < (on : Int)) = true := decide_eq_true (by omega)
    go_enter Tryz.func8, Tryz.ntmps8
    go_upto_region 2 with fail
    refine gen_world (fun W0 hW0 => ?_)
    have KB := hid (show W0.heap[w.heap.size]? = some (.cells #[.int .i64 x0, .int .i64 x1, .int .i64 x2, .slice ba bn bc, .int .i64 x4, .int .i64 x5, .int .i64 x6, .int .i64 x7, .int .i64 x8, .int .i64 x9, .int .i64 x10, .int .i64 x11, .slice ea en ec, .int .i64 x13, .int .i64 x14, .int .i64 x15, .slice oa on oc, .slice ca cn cc, .int .i64 x18, .int .i64 x19, .int .i64 x20, .int .i64 x21, .int .i64 x22, .int .i64 x23, .int .i64 x24, .int .i64 x25, .int .i64 x26, .int .i64 x27, .int .i64 x28, .int .i64 x29, .int .i64 x30, .int .i64 x31] 54) by rw [hW0]; exact heap_alloc_at _ _ _ rfl)
    have HB0 := hid (show Below w.heap.size w W0 by rw [hW0]; exact (Below.refl _ _).alloc (Nat.le_refl _) _)
    clear hW0
    have c3 : W0.cell? ⟨w.heap.size, 3, none⟩ = some (.slice ba bn bc) := (cell_row (j := 3) KB.out).trans rfl
    have c11 : W0.cell? ⟨w.heap.size, 11, none⟩ = some (.int .i64 x11) := (cell_row (j := 11) KB.out).trans rfl
    have c12 : W0.cell? ⟨w.heap.size, 12, none⟩ = some (.slice ea en ec) := (cell_row (j := 12) KB.out).trans rfl
    have c13 : W0.cell? ⟨w.heap.size, 13, none⟩ = some (.int .i64 x13) := (cell_row (j := 13) KB.out).trans rfl
    have c14 : W0.cell? ⟨w.heap.size, 14, none⟩ = some (.int .i64 x14) := (cell_row (j := 14) KB.out).trans rfl
    go_wp2_with fail
    refine (long_any _ _ _ _ _ _ _ _ hen (heap_alloc_at _ _ _ rfl)).mono ?_
    rintro r w1 ⟨⟨lb, rfl⟩, hb⟩
    have KB1 := hid (heap_still hb (heap_alloc_past W0 (.cells #[.int .i64 x11, .slice ea en ec, .int .i64 x13, .int .i64 x14] 44) _ _ KB.out))
    have HB1 := hid (show Below w.heap.size w w1 from (HB0.out.alloc HB0.out.size _).trans (hb.mono (by have := HB0.out.size; simp; omega)))
    clear hb c3 c11 c12 c13 c14
    have c16 : w1.cell? ⟨w.heap.size, 16, none⟩ = some (.slice oa on oc) := (cell_row (j := 16) KB1.out).trans rfl
    have c17 : w1.cell? ⟨w.heap.size, 17, none⟩ = some (.slice ca cn cc) := (cell_row (j := 17) KB1.out).trans rfl
    cases lb
    all_goals
      go_wp2_with fail
      go_ret
      first | exact ⟨⟨_, rfl⟩, HB1.out⟩ | exact ⟨.inl rfl, HB1.out⟩ | exact ⟨.inr rfl, HB1.out⟩
  have don : decide ((80 : Int) < (on : Int)) = false := decide_eq_false (by omega)
  by_cases hcn : 40 < cn
  · have dcn : decide ((40 : Int) < (cn : Int)) = true := decide_eq_true (by omega)
    go_enter Tryz.func8, Tryz.ntmps8
    go_upto_region 2 with fail
    refine gen_world (fun W0 hW0 => ?_)
    have KB := hid (show W0.heap[w.heap.size]? = some (.cells #[.int .i64 x0, .int .i64 x1, .int .i64 x2, .slice ba bn bc, .int .i64 x4, .int .i64 x5, .int .i64 x6, .int .i64 x7, .int .i64 x8, .int .i64 x9, .int .i64 x10, .int .i64 x11, .slice ea en ec, .int .i64 x13, .int .i64 x14, .int .i64 x15, .slice oa on oc, .slice ca cn cc, .int .i64 x18, .int .i64 x19, .int .i64 x20, .int .i64 x21, .int .i64 x22, .int .i64 x23, .int .i64 x24, .int .i64 x25, .int .i64 x26, .int .i64 x27, .int .i64 x28, .int .i64 x29, .int .i64 x30, .int .i64 x31] 54) by rw [hW0]; exact heap_alloc_at _ _ _ rfl)
    have HB0 := hid (show Below w.heap.size w W0 by rw [hW0]; exact (Below.refl _ _).alloc (Nat.le_refl _) _)
    clear hW0
    have c3 : W0.cell? ⟨w.heap.size, 3, none⟩ = some (.slice ba bn bc) := (cell_row (j := 3) KB.out).trans rfl
    have c11 : W0.cell? ⟨w.heap.size, 11, none⟩ = some (.int .i64 x11) := (cell_row (j := 11) KB.out).trans rfl
    have c12 : W0.cell? ⟨w.heap.size, 12, none⟩ = some (.slice ea en ec) := (cell_row (j := 12) KB.out).trans rfl
    have c13 : W0.cell? ⟨w.heap.size, 13, none⟩ = some (.int .i64 x13) := (cell_row (j := 13) KB.out).trans rfl
    have c14 : W0.cell? ⟨w.heap.size, 14, none⟩ = some (.int .i64 x14) := (cell_row (j := 14) KB.out).trans rfl
    go_wp2_with fail
    refine (long_any _ _ _ _ _ _ _ _ hen (heap_alloc_at _ _ _ rfl)).mono ?_
    rintro r w1 ⟨⟨lb, rfl⟩, hb⟩
    have KB1 := hid (heap_still hb (heap_alloc_past W0 (.cells #[.int .i64 x11, .slice ea en ec, .int .i64 x13, .int .i64 x14] 44) _ _ KB.out))
    have HB1 := hid (show Below w.heap.size w w1 from (HB0.out.alloc HB0.out.size _).trans (hb.mono (by have := HB0.out.size; simp; omega)))
    clear hb c3 c11 c12 c13 c14
    have c16 : w1.cell? ⟨w.heap.size, 16, none⟩ = some (.slice oa on oc) := (cell_row (j := 16) KB1.out).trans rfl
    have c17 : w1.cell? ⟨w.heap.size, 17, none⟩ = some (.slice ca cn cc) := (cell_row (j := 17) KB1.out).trans rfl
    cases lb
    all_goals
      go_wp2_with fail
      go_ret
      first | exact ⟨⟨_, rfl⟩, HB1.out⟩ | exact ⟨.inl rfl, HB1.out⟩ | exact ⟨.inr rfl, HB1.out⟩
  have dcn : decide ((40 : Int) < (cn : Int)) = false := decide_eq_false (by omega)
  go_enter Tryz.func8, Tryz.ntmps8
  go_upto_region 2 with fail
  refine gen_world (fun W0 hW0 => ?_)
  have KB := hid (show W0.heap[w.heap.size]? = some (.cells #[.int .i64 x0, .int .i64 x1, .int .i64 x2, .slice ba bn bc, .int .i64 x4, .int .i64 x5, .int .i64 x6, .int .i64 x7, .int .i64 x8, .int .i64 x9, .int .i64 x10, .int .i64 x11, .slice ea en ec, .int .i64 x13, .int .i64 x14, .int .i64 x15, .slice oa on oc, .slice ca cn cc, .int .i64 x18, .int .i64 x19, .int .i64 x20, .int .i64 x21, .int .i64 x22, .int .i64 x23, .int .i64 x24, .int .i64 x25, .int .i64 x26, .int .i64 x27, .int .i64 x28, .int .i64 x29, .int .i64 x30, .int .i64 x31] 54) by rw [hW0]; exact heap_alloc_at _ _ _ rfl)
  have HB0 := hid (show Below w.heap.size w W0 by rw [hW0]; exact (Below.refl _ _).alloc (Nat.le_refl _) _)
  clear hW0
  have c3 : W0.cell? ⟨w.heap.size, 3, none⟩ = some (.slice ba bn bc) := (cell_row (j := 3) KB.out).trans rfl
  have c11 : W0.cell? ⟨w.heap.size, 11, none⟩ = some (.int .i64 x11) := (cell_row (j := 11) KB.out).trans rfl
  have c12 : W0.cell? ⟨w.heap.size, 12, none⟩ = some (.slice ea en ec) := (cell_row (j := 12) KB.out).trans rfl
  have c13 : W0.cell? ⟨w.heap.size, 13, none⟩ = some (.int .i64 x13) := (cell_row (j := 13) KB.out).trans rfl
  have c14 : W0.cell? ⟨w.heap.size, 14, none⟩ = some (.int .i64 x14) := (cell_row (j := 14) KB.out).trans rfl
  go_wp2_with fail
  refine (long_any _ _ _ _ _ _ _ _ hen (heap_alloc_at _ _ _ rfl)).mono ?_
  rintro r w1 ⟨⟨lb, rfl⟩, hb⟩
  have KB1 := hid (heap_still hb (heap_alloc_past W0 (.cells #[.int .i64 x11, .slice ea en ec, .int .i64 x13, .int .i64 x14] 44) _ _ KB.out))
  have HB1 := hid (show Below w.heap.size w w1 from (HB0.out.alloc HB0.out.size _).trans (hb.mono (by have := HB0.out.size; simp; omega)))
  clear hb c3 c11 c12 c13 c14
  have c16 : w1.cell? ⟨w.heap.size, 16, none⟩ = some (.slice oa on oc) := (cell_row (j := 16) KB1.out).trans rfl
  have c17 : w1.cell? ⟨w.heap.size, 17, none⟩ = some (.slice ca cn cc) := (cell_row (j := 17) KB1.out).trans rfl
  cases lb
  all_goals
    go_wp2_with fail
    go_ret
    first | exact ⟨⟨_, rfl⟩, HB1.out⟩ | exact ⟨.inl rfl, HB1.out⟩ | exact ⟨.inr rfl, HB1.out⟩
theorem flat68 : flatOf Tryz.prog 10 68 = some [some .i64, some .i64, some .i64, some .i64] := by kernel_rfl
theorem eq68 (W : World) : (Op.equalIn 10000 68 (.agg #[.int .i64 0, .int .i64 0, .int .i64 0, .int .i64 0]) (.agg #[.int .i64 0, .int .i64 0, .int .i64 0, .int .i64 0])).run Tryz.prog W = .ok true W := by
  rw [equal_struct Tryz.underlying68 flat68 [.int .i64 0, .int .i64 0, .int .i64 0, .int .i64 0] [.int .i64 0, .int .i64 0, .int .i64 0, .int .i64 0] rfl rfl W]
  rfl
theorem lsz54 : (Tryz.prog.info? 54).map (·.size) = some 32 := by kernel_rfl
def ErrsV (W : World) (v : Value) : Prop := ∃ g, v = .slice (some ⟨g, 0, none⟩) 12 12 ∧ W.heap[g]? = some (.cells #[.int .i64 2, .int .i64 2, .int .i64 2, .int .i64 2, .int .i64 2, .int .i64 2, .int .i64 2, .int .i64 2, .int .i64 2, .int .i64 2, .int .i64 2, .int .i64 2] 31)
theorem ErrsV.stb : Stb ErrsV := fun _ _ _ hB ⟨g, h1, h2⟩ => ⟨g, h1, heap_still hB h2⟩
set_option maxRecDepth 100000 in
set_option maxHeartbeats 6400000 in
theorem nils_law (x0 x1 x2 x4 x5 x6 x7 x8 x9 x10 x11 x13 x14 x15 x18 x19 x20 x21 x22 x23 x24 x25 x26 x27 x28 x29 x30 x31 : Int) (ba : Option Addr) (bn bc : Nat) (ea : Option Addr) (en ec : Nat) (oa : Option Addr) (on oc : Nat) (ca : Option Addr) (cn cc : Nat) (w : World) (hbn : bn ≤ 9223372036854775807) (hen : en ≤ 9223372036854775807) (hon : on ≤ 9223372036854775807) (hcn : cn ≤ 9223372036854775807) :
    Calls Tryz.prog 4 #[.agg #[.int .i64 x0, .int .i64 x1, .int .i64 x2, .slice ba bn bc, .int .i64 x4, .int .i64 x5, .int .i64 x6, .int .i64 x7, .int .i64 x8, .int .i64 x9, .int .i64 x10, .int .i64 x11, .slice ea en ec, .int .i64 x13, .int .i64 x14, .int .i64 x15, .slice oa on oc, .slice ca cn cc, .int .i64 x18, .int .i64 x19, .int .i64 x20, .int .i64 x21, .int .i64 x22, .int .i64 x23, .int .i64 x24, .int .i64 x25, .int .i64 x26, .int .i64 x27, .int .i64 x28, .int .i64 x29, .int .i64 x30, .int .i64 x31]] w fun r w' => r = .returned (.bool true) ∧ Below w.heap.size w w' := by
  have HBIG := hid (fun W => big_any x0 x1 x2 x4 x5 x6 x7 x8 x9 x10 x11 x13 x14 x15 x18 x19 x20 x21 x22 x23 x24 x25 x26 x27 x28 x29 x30 x31 ba bn bc ea en ec oa on oc ca cn cc W hbn hen hon hcn)
  have heq := eq68
  go_enter Tryz.func4, Tryz.ntmps4
  go_upto_region 1 with fail
  refine gen_world (fun W0 hW0 => ?_)
  have KB0 := hid (show W0.heap[w.heap.size]? = some (.cells #[.int .i64 x0, .int .i64 x1, .int .i64 x2, .slice ba bn bc, .int .i64 x4, .int .i64 x5, .int .i64 x6, .int .i64 x7, .int .i64 x8, .int .i64 x9, .int .i64 x10, .int .i64 x11, .slice ea en ec, .int .i64 x13, .int .i64 x14, .int .i64 x15, .slice oa on oc, .slice ca cn cc, .int .i64 x18, .int .i64 x19, .int .i64 x20, .int .i64 x21, .int .i64 x22, .int .i64 x23, .int .i64 x24, .int .i64 x25, .int .i64 x26, .int .i64 x27, .int .i64 x28, .int .i64 x29, .int .i64 x30, .int .i64 x31] 54) by rw [hW0]; exact heap_alloc_at _ _ _ rfl)
  have HB0 := hid (show Below w.heap.size w W0 by rw [hW0]; exact (Below.refl _ _).alloc (Nat.le_refl _) _)
  clear hW0
  go_wp2_with (refine wpList_load_at rfl 54 (.tmp 1) rfl rfl KB0.out Tryz.underlying54 rfl lsz54 rfl ?_)
  refine (HBIG.out _).mono ?_
  rintro r w1 ⟨⟨bb, rfl⟩, hb⟩
  have KB1 := hid (heap_still hb KB0.out)
  have HB1 := hid (HB0.out.trans (hb.mono HB0.out.size))
  have hz1 := HB1.out.size
  clear hb KB0 HB0 HBIG
  cases bb
  case true =>
    go_wp2_with fail
    refine (pawake_any _).mono ?_
    rintro r w9 ⟨rfl, hb⟩
    go_wp2_with fail
    go_ret
    exact ⟨rfl, HB1.out.trans (hb.mono hz1)⟩
  case false =>
    go_wp2_with fail
    refine gen_world (fun W2 hW2 => ?_)
    have KA := hid (show W2.heap[w1.heap.size + 1]? = some (.cells #[.pointer none, .pointer (some ⟨w1.heap.size, 0, none⟩)] 56) by rw [hW2]; exact heap_alloc_at _ _ _ (by simp))
    have KZ := hid (show W2.heap[w1.heap.size]? = some (.cells #[.int .i64 0, .int .i64 0, .int .i64 0, .int .i64 0, .int .i64 0, .int .i64 0, .int .i64 0, .int .i64 0, .int .i64 0, .int .i64 0, .int .i64 0, .int .i64 0, .int .i64 0, .int .i64 0, .int .i64 0, .int .i64 0, .int .i64 0, .int .i64 0, .int .i64 0, .int .i64 0, .int .i64 0, .int .i64 0, .pointer none, .pointer none, .bool false, .slice none 0 0, .slice none 0 0, .slice none 0 0, .slice none 0 0, .slice none 0 0] 65) by rw [hW2]; exact heap_alloc_past _ _ _ _ (heap_alloc_at _ _ _ rfl))
    have KB := hid (show W2.heap[w.heap.size]? = some (.cells #[.int .i64 x0, .int .i64 x1, .int .i64 x2, .slice ba bn bc, .int .i64 x4, .int .i64 x5, .int .i64 x6, .int .i64 x7, .int .i64 x8, .int .i64 x9, .int .i64 x10, .int .i64 x11, .slice ea en ec, .int .i64 x13, .int .i64 x14, .int .i64 x15, .slice oa on oc, .slice ca cn cc, .int .i64 x18, .int .i64 x19, .int .i64 x20, .int .i64 x21, .int .i64 x22, .int .i64 x23, .int .i64 x24, .int .i64 x25, .int .i64 x26, .int .i64 x27, .int .i64 x28, .int .i64 x29, .int .i64 x30, .int .i64 x31] 54) by rw [hW2]; exact heap_alloc_past _ _ _ _ (heap_alloc_past _ _ _ _ KB1.out))
    have HB2 := hid (show Below w.heap.size w W2 by rw [hW2]; exact (HB1.out.alloc hz1 _).alloc (by simp; omega) _)
    have hz2 := HB2.out.size
    clear hW2 HB1 KB1
    generalize w1.heap.size = zA at *
    go_loopw [28] (fun iv wr => ∃ i : Nat, i ≤ 2 ∧ iv = .int .i64 (i : Int) ∧ Below W2.heap.size W2 wr) (fun iv _ => 2 - (intOf iv).toNat)
    case atStart => exact ⟨0, by omega, rfl, Below.refl _ _⟩
    case round =>
      obtain ⟨i, hi, rfl, hB⟩ := hrel
      have HB := hid hB
      clear hB
      by_cases hlt : i < 2
      · have e3 : decide ((i : Int) < 2) = true := decide_eq_true (by omega)
        obtain ⟨v, hv, hnd⟩ : ∃ v, wr.cell? ⟨zA + 1, i, none⟩ = some v ∧ NoP wr v := by
          match i, hlt with
          | 0, _ => exact ⟨_, (cell_row (j := 0) (heap_still HB.out KA.out)).trans rfl, .inl rfl⟩
          | 1, _ => exact ⟨_, (cell_row (j := 1) (heap_still HB.out KA.out)).trans rfl, .inr ⟨_, rfl, (cell_row (j := 23) (heap_still HB.out KZ.out)).trans rfl⟩⟩
        have ND := hid hnd
        have HX := hid (Below.refl wr.heap.size wr)
        have KX := hid (heap_still HB.out KB.out)
        have c3 : wr.cell? ⟨w.heap.size, 3, none⟩ = some (.slice ba bn bc) := (cell_row (j := 3) KX.out).trans rfl
        clear hnd
        go_wp2_with fail
        clear hv c3
        refine (pfeed_any v _ _ ND.out).mono ?_
        rintro r w1 ⟨rfl, hb⟩
        have HX := hid (HX.out.trans (hb.mono HX.out.size))
        clear hb
        go_upto_region 7 with fail
        refine gen_world (fun W5 hW5 => ?_)
        have K5 := hid (show W5.heap[w1.heap.size]? = some (.cells #[.int .i64 0, .int .i64 0, .int .i64 0, .int .i64 0] 68) by rw [hW5]; exact heap_alloc_at _ _ _ rfl)
        have HX := hid (show Below wr.heap.size wr W5 by rw [hW5]; exact HX.out.alloc HX.out.size _)
        clear hW5
        generalize w1.heap.size = z5 at *
        go_wp2_with fail
        refine (ppublish_any v _ (ND.out.still HX.out)).mono ?_
        rintro r w1 ⟨rfl, hb⟩
        have K5 := hid (heap_still hb K5.out)
        have HX := hid (HX.out.trans (hb.mono HX.out.size))
        clear hb
        have c1 : w1.cell? ⟨w.heap.size, 1, none⟩ = some (.int .i64 x1) := (cell_row (j := 1) (heap_still HX.out KX.out)).trans rfl
        go_wp2_with fail
        refine (ppoints_any v _ _ (ND.out.still HX.out)).mono ?_
        rintro r w1 ⟨rfl, hb⟩
        have K5 := hid (heap_still hb K5.out)
        have HX := hid (HX.out.trans (hb.mono HX.out.size))
        clear hb c1
        have c1 : w1.cell? ⟨w.heap.size, 1, none⟩ = some (.int .i64 x1) := (cell_row (j := 1) (heap_still HX.out KX.out)).trans rfl
        have c15 : w1.cell? ⟨w.heap.size, 15, none⟩ = some (.int .i64 x15) := (cell_row (j := 15) (heap_still HX.out KX.out)).trans rfl
        have c16 : w1.cell? ⟨w.heap.size, 16, none⟩ = some (.slice oa on oc) := (cell_row (j := 16) (heap_still HX.out KX.out)).trans rfl
        have c17 : w1.cell? ⟨w.heap.size, 17, none⟩ = some (.slice ca cn cc) := (cell_row (j := 17) (heap_still HX.out KX.out)).trans rfl
        have c18 : w1.cell? ⟨w.heap.size, 18, none⟩ = some (.int .i64 x18) := (cell_row (j := 18) (heap_still HX.out KX.out)).trans rfl
        go_wp2_with fail
        refine (porder_any v _ _ _ _ _ _ (ND.out.still HX.out)).mono ?_
        rintro r w1 ⟨rfl, hb⟩
        have K5 := hid (heap_still hb K5.out)
        have HX := hid (HX.out.trans (hb.mono HX.out.size))
        clear hb c1 c15 c16 c17 c18
        have c1 : w1.cell? ⟨w.heap.size, 1, none⟩ = some (.int .i64 x1) := (cell_row (j := 1) (heap_still HX.out KX.out)).trans rfl
        have c19 : w1.cell? ⟨w.heap.size, 19, none⟩ = some (.int .i64 x19) := (cell_row (j := 19) (heap_still HX.out KX.out)).trans rfl
        have c20 : w1.cell? ⟨w.heap.size, 20, none⟩ = some (.int .i64 x20) := (cell_row (j := 20) (heap_still HX.out KX.out)).trans rfl
        have c21 : w1.cell? ⟨w.heap.size, 21, none⟩ = some (.int .i64 x21) := (cell_row (j := 21) (heap_still HX.out KX.out)).trans rfl
        have c22 : w1.cell? ⟨w.heap.size, 22, none⟩ = some (.int .i64 x22) := (cell_row (j := 22) (heap_still HX.out KX.out)).trans rfl
        go_wp2_with fail
        refine (pprofile_any v _ _ _ _ _ _ (ND.out.still HX.out)).mono ?_
        rintro r w1 ⟨rfl, hb⟩
        have K5 := hid (heap_still hb K5.out)
        have HX := hid (HX.out.trans (hb.mono HX.out.size))
        clear hb c1 c19 c20 c21 c22
        have c1 : w1.cell? ⟨w.heap.size, 1, none⟩ = some (.int .i64 x1) := (cell_row (j := 1) (heap_still HX.out KX.out)).trans rfl
        have c2 : w1.cell? ⟨w.heap.size, 2, none⟩ = some (.int .i64 x2) := (cell_row (j := 2) (heap_still HX.out KX.out)).trans rfl
        go_wp2_with fail
        refine (pchanges_any v _ _ _ (ND.out.still HX.out)).mono ?_
        rintro r w1 ⟨rfl, hb⟩
        have K5 := hid (heap_still hb K5.out)
        have HX := hid (HX.out.trans (hb.mono HX.out.size))
        clear hb c1 c2
        have c1 : w1.cell? ⟨w.heap.size, 1, none⟩ = some (.int .i64 x1) := (cell_row (j := 1) (heap_still HX.out KX.out)).trans rfl
        have c2 : w1.cell? ⟨w.heap.size, 2, none⟩ = some (.int .i64 x2) := (cell_row (j := 2) (heap_still HX.out KX.out)).trans rfl
        have c23 : w1.cell? ⟨w.heap.size, 23, none⟩ = some (.int .i64 x23) := (cell_row (j := 23) (heap_still HX.out KX.out)).trans rfl
        have c24 : w1.cell? ⟨w.heap.size, 24, none⟩ = some (.int .i64 x24) := (cell_row (j := 24) (heap_still HX.out KX.out)).trans rfl
        have c25 : w1.cell? ⟨w.heap.size, 25, none⟩ = some (.int .i64 x25) := (cell_row (j := 25) (heap_still HX.out KX.out)).trans rfl
        have c26 : w1.cell? ⟨w.heap.size, 26, none⟩ = some (.int .i64 x26) := (cell_row (j := 26) (heap_still HX.out KX.out)).trans rfl
        have c27 : w1.cell? ⟨w.heap.size, 27, none⟩ = some (.int .i64 x27) := (cell_row (j := 27) (heap_still HX.out KX.out)).trans rfl
        have c28 : w1.cell? ⟨w.heap.size, 28, none⟩ = some (.int .i64 x28) := (cell_row (j := 28) (heap_still HX.out KX.out)).trans rfl
        have c29 : w1.cell? ⟨w.heap.size, 29, none⟩ = some (.int .i64 x29) := (cell_row (j := 29) (heap_still HX.out KX.out)).trans rfl
        go_wp2_with fail
        refine (pchange_any v _ _ _ _ _ _ _ _ _ _ (ND.out.still HX.out)).mono ?_
        rintro r w1 ⟨rfl, hb⟩
        have K5 := hid (heap_still hb K5.out)
        have HX := hid (HX.out.trans (hb.mono HX.out.size))
        clear hb c1 c2 c23 c24 c25 c26 c27 c28 c29
        go_upto_region 13 with fail
        refine gen_world (fun W6 hW6 => ?_)
        have HX6 := hid (show Below wr.heap.size wr W6 by rw [hW6]; exact HX.out)
        have K56 := hid (show W6.heap[z5]? = some (.cells #[.int .i64 0, .int .i64 0, .int .i64 0, .int .i64 0] 68) by rw [hW6]; exact K5.out)
        clear hW6 HX K5
        have HB6 := hid HX6.out
        refine gen_act (fun A0 hA => ?_)
        refine wp_region_pl (by kernel_rfl) (by kernel_rfl) [some 95, some 96, some 97, some 98, some 99, some 100, some 101, some 102, some 103, some 104, some 105, some 106, some 107, some 108, some 109, some 110, some 111, some 112, some 113, some 114, some 115, some 116, some 117, some 118, some 119, some 120, some 121, some 122, some 123, some 124, some 125, some 126] rfl (by decide)
          [IsV (.int .i64 2), IsV (.int .i64 2), IsV (.int .i64 2), IsV (.int .i64 2), IsV (.int .i64 2), IsV (.int .i64 2), IsV (.int .i64 2), IsV (v), IsV (.pointer (some ⟨w.heap.size, 1, none⟩)), IsV (.int .i64 x1), IsV (.pointer (some ⟨w.heap.size, 2, none⟩)), IsV (.int .i64 x2), IsV (.int .i64 2), IsV (v), IsV (.pointer (some ⟨w.heap.size, 4, none⟩)), IsV (.agg #[.int .i64 x4, .int .i64 x5, .int .i64 x6, .int .i64 x7, .int .i64 x8, .int .i64 x9, .int .i64 x10]), IsV (.int .i64 2), IsV (v), IsV (.pointer (some ⟨w.heap.size, 11, none⟩)), IsV (.agg #[.int .i64 x11, .slice ea en ec, .int .i64 x13, .int .i64 x14]), IsV (.int .i64 2), IsV (v), IsV (.pointer (some ⟨w.heap.size, 1, none⟩)), IsV (.int .i64 x1), IsV (.pointer (some ⟨w.heap.size, 2, none⟩)), IsV (.int .i64 x2), IsV (.int .i64 2), IsV (v), IsV (.int .i64 2), ErrsV, IsV (.int .i64 12), IsV (.int .i64 0)]
          ⟨IsV.stb _, IsV.stb _, IsV.stb _, IsV.stb _, IsV.stb _, IsV.stb _, IsV.stb _, IsV.stb _, IsV.stb _, IsV.stb _, IsV.stb _, IsV.stb _, IsV.stb _, IsV.stb _, IsV.stb _, IsV.stb _, IsV.stb _, IsV.stb _, IsV.stb _, IsV.stb _, IsV.stb _, IsV.stb _, IsV.stb _, IsV.stb _, IsV.stb _, IsV.stb _, IsV.stb _, IsV.stb _, IsV.stb _, ErrsV.stb, IsV.stb _, IsV.stb _, trivial⟩ ?hsN ?hendN
        case hsN =>
          refine ⟨?_, ?_, ?_, ?_, ?_, ?_, ?_, ?_, ?_, ?_, ?_, ?_, ?_, ?_, ?_, ?_, ?_, ?_, ?_, ?_, ?_, ?_, ?_, ?_, ?_, ?_, ?_, ?_, ?_, ?_, ?_, ?_, trivial⟩
          · intro K us W hK0 hB hd
            have hK := hid hK0; clear hK0
            have HBW := hid hB
            have hsW := hB.size
            have GB := hid (HB6.out.trans (hB.mono HB6.out.size))
            clear hd
            simp only [putF]
            rw [hA]
            go_frame
            go_wp2_with fail
            exact hK.out _ _ _ (by rw [hA]; simp only [putF]; kernel_rfl) (Below.refl _ _) rfl
          · intro K us W hK0 hB hd
            have hK := hid hK0; clear hK0
            have HBW := hid hB
            have hsW := hB.size
            have GB := hid (HB6.out.trans (hB.mono HB6.out.size))
            clear hd
            simp only [putF]
            rw [hA]
            go_frame
            go_wp2_with fail
            exact hK.out _ _ _ (by rw [hA]; simp only [putF]; kernel_rfl) (Below.refl _ _) rfl
          · intro K us W hK0 hB hd
            have hK := hid hK0; clear hK0
            have HBW := hid hB
            have hsW := hB.size
            have GB := hid (HB6.out.trans (hB.mono HB6.out.size))
            clear hd
            simp only [putF]
            rw [hA]
            go_frame
            go_wp2_with fail
            exact hK.out _ _ _ (by rw [hA]; simp only [putF]; kernel_rfl) (Below.refl _ _) rfl
          · intro K us W hK0 hB hd
            have hK := hid hK0; clear hK0
            have HBW := hid hB
            have hsW := hB.size
            have GB := hid (HB6.out.trans (hB.mono HB6.out.size))
            clear hd
            simp only [putF]
            rw [hA]
            go_frame
            go_wp2_with fail
            exact hK.out _ _ _ (by rw [hA]; simp only [putF]; kernel_rfl) (Below.refl _ _) rfl
          · intro K us W hK0 hB hd
            have hK := hid hK0; clear hK0
            have HBW := hid hB
            have hsW := hB.size
            have GB := hid (HB6.out.trans (hB.mono HB6.out.size))
            clear hd
            simp only [putF]
            rw [hA]
            go_frame
            go_wp2_with fail
            exact hK.out _ _ _ (by rw [hA]; simp only [putF]; kernel_rfl) (Below.refl _ _) rfl
          · intro K us W hK0 hB hd
            have hK := hid hK0; clear hK0
            have HBW := hid hB
            have hsW := hB.size
            have GB := hid (HB6.out.trans (hB.mono HB6.out.size))
            clear hd
            simp only [putF]
            rw [hA]
            go_frame
            go_wp2_with fail
            exact hK.out _ _ _ (by rw [hA]; simp only [putF]; kernel_rfl) (Below.refl _ _) rfl
          · intro K us W hK0 hB hd
            have hK := hid hK0; clear hK0
            have HBW := hid hB
            have hsW := hB.size
            have GB := hid (HB6.out.trans (hB.mono HB6.out.size))
            clear hd
            simp only [putF]
            rw [hA]
            go_frame
            go_wp2_with fail
            exact hK.out _ _ _ (by rw [hA]; simp only [putF]; kernel_rfl) (Below.refl _ _) rfl
          · intro K us W hK0 hB hd
            have hK := hid hK0; clear hK0
            have HBW := hid hB
            have hsW := hB.size
            have GB := hid (HB6.out.trans (hB.mono HB6.out.size))
            clear hd
            simp only [putF]
            rw [hA]
            go_frame
            go_wp2_with fail
            exact hK.out _ _ _ (by rw [hA]; simp only [putF]; kernel_rfl) (Below.refl _ _) rfl
          · intro K us W hK0 hB hd
            have hK := hid hK0; clear hK0
            have HBW := hid hB
            have hsW := hB.size
            have GB := hid (HB6.out.trans (hB.mono HB6.out.size))
            clear hd
            simp only [putF]
            rw [hA]
            go_frame
            go_wp2_with fail
            exact hK.out _ _ _ (by rw [hA]; simp only [putF]; kernel_rfl) (Below.refl _ _) rfl
          · intro K us W hK0 hB hd
            have hK := hid hK0; clear hK0
            have HBW := hid hB
            have hsW := hB.size
            have GB := hid (HB6.out.trans (hB.mono HB6.out.size))
            have e8 : us 8 = .pointer (some ⟨w.heap.size, 1, none⟩) := hd ⟨8, Ground.data⟩ (by simp) rfl
            clear hd
            have KXW := hid (heap_still GB.out KX.out)
            have c1 : W.cell? ⟨w.heap.size, 1, none⟩ = some (.int .i64 x1) := (cell_row (j := 1) KXW.out).trans rfl
            simp only [putF]
            rw [hA, e8]
            go_frame
            go_wp2_with fail
            exact hK.out _ _ _ (by rw [hA]; simp only [putF]; rw [e8]; kernel_rfl) (Below.refl _ _) rfl
          · intro K us W hK0 hB hd
            have hK := hid hK0; clear hK0
            have HBW := hid hB
            have hsW := hB.size
            have GB := hid (HB6.out.trans (hB.mono HB6.out.size))
            clear hd
            simp only [putF]
            rw [hA]
            go_frame
            go_wp2_with fail
            exact hK.out _ _ _ (by rw [hA]; simp only [putF]; kernel_rfl) (Below.refl _ _) rfl
          · intro K us W hK0 hB hd
            have hK := hid hK0; clear hK0
            have HBW := hid hB
            have hsW := hB.size
            have GB := hid (HB6.out.trans (hB.mono HB6.out.size))
            have e10 : us 10 = .pointer (some ⟨w.heap.size, 2, none⟩) := hd ⟨10, Ground.data⟩ (by simp) rfl
            clear hd
            have KXW := hid (heap_still GB.out KX.out)
            have c2 : W.cell? ⟨w.heap.size, 2, none⟩ = some (.int .i64 x2) := (cell_row (j := 2) KXW.out).trans rfl
            simp only [putF]
            rw [hA, e10]
            go_frame
            go_wp2_with fail
            exact hK.out _ _ _ (by rw [hA]; simp only [putF]; rw [e10]; kernel_rfl) (Below.refl _ _) rfl
          · intro K us W hK0 hB hd
            have hK := hid hK0; clear hK0
            have HBW := hid hB
            have hsW := hB.size
            have GB := hid (HB6.out.trans (hB.mono HB6.out.size))
            have e7 : us 7 = v := hd ⟨7, Ground.data⟩ (by simp) rfl
            have e9 : us 9 = .int .i64 x1 := hd ⟨9, Ground.data⟩ (by simp) rfl
            have e11 : us 11 = .int .i64 x2 := hd ⟨11, Ground.data⟩ (by simp) rfl
            clear hd
            simp only [putF]
            rw [hA, e7, e9, e11]
            go_frame
            go_wp2_with fail
            refine (pgiveup_any v _ _ _ (ND.out.still GB.out)).mono ?_
            rintro r W9 ⟨rfl, hb9⟩
            go_wp2_with fail
            exact hK.out _ _ _ (by rw [hA]; simp only [putF]; rw [e7, e9, e11]; kernel_rfl) hb9 rfl
          · intro K us W hK0 hB hd
            have hK := hid hK0; clear hK0
            have HBW := hid hB
            have hsW := hB.size
            have GB := hid (HB6.out.trans (hB.mono HB6.out.size))
            clear hd
            simp only [putF]
            rw [hA]
            go_frame
            go_wp2_with fail
            exact hK.out _ _ _ (by rw [hA]; simp only [putF]; kernel_rfl) (Below.refl _ _) rfl
          · intro K us W hK0 hB hd
            have hK := hid hK0; clear hK0
            have HBW := hid hB
            have hsW := hB.size
            have GB := hid (HB6.out.trans (hB.mono HB6.out.size))
            clear hd
            simp only [putF]
            rw [hA]
            go_frame
            go_wp2_with fail
            exact hK.out _ _ _ (by rw [hA]; simp only [putF]; kernel_rfl) (Below.refl _ _) rfl
          · intro K us W hK0 hB hd
            have hK := hid hK0; clear hK0
            have HBW := hid hB
            have hsW := hB.size
            have GB := hid (HB6.out.trans (hB.mono HB6.out.size))
            have e14 : us 14 = .pointer (some ⟨w.heap.size, 4, none⟩) := hd ⟨14, Ground.data⟩ (by simp) rfl
            clear hd
            have KXW := hid (heap_still GB.out KX.out)
            have c4 : W.cell? ⟨w.heap.size, 4, none⟩ = some (.int .i64 x4) := (cell_row (j := 4) KXW.out).trans rfl
            have c5 : W.cell? ⟨w.heap.size, 5, none⟩ = some (.int .i64 x5) := (cell_row (j := 5) KXW.out).trans rfl
            have c6 : W.cell? ⟨w.heap.size, 6, none⟩ = some (.int .i64 x6) := (cell_row (j := 6) KXW.out).trans rfl
            have c7 : W.cell? ⟨w.heap.size, 7, none⟩ = some (.int .i64 x7) := (cell_row (j := 7) KXW.out).trans rfl
            have c8 : W.cell? ⟨w.heap.size, 8, none⟩ = some (.int .i64 x8) := (cell_row (j := 8) KXW.out).trans rfl
            have c9 : W.cell? ⟨w.heap.size, 9, none⟩ = some (.int .i64 x9) := (cell_row (j := 9) KXW.out).trans rfl
            have c10 : W.cell? ⟨w.heap.size, 10, none⟩ = some (.int .i64 x10) := (cell_row (j := 10) KXW.out).trans rfl
            simp only [putF]
            rw [hA, e14]
            go_frame
            go_wp2_with fail
            exact hK.out _ _ _ (by rw [hA]; simp only [putF]; rw [e14]; kernel_rfl) (Below.refl _ _) rfl
          · intro K us W hK0 hB hd
            have hK := hid hK0; clear hK0
            have HBW := hid hB
            have hsW := hB.size
            have GB := hid (HB6.out.trans (hB.mono HB6.out.size))
            have e13 : us 13 = v := hd ⟨13, Ground.data⟩ (by simp) rfl
            have e15 : us 15 = .agg #[.int .i64 x4, .int .i64 x5, .int .i64 x6, .int .i64 x7, .int .i64 x8, .int .i64 x9, .int .i64 x10] := hd ⟨15, Ground.data⟩ (by simp) rfl
            clear hd
            simp only [putF]
            rw [hA, e13, e15]
            go_frame
            go_wp2_with fail
            refine (ptie_any v _ _ _ _ _ _ _ _ (ND.out.still GB.out)).mono ?_
            rintro r W9 ⟨rfl, hb9⟩
            go_wp2_with fail
            exact hK.out _ _ _ (by rw [hA]; simp only [putF]; rw [e13, e15]; kernel_rfl) hb9 rfl
          · intro K us W hK0 hB hd
            have hK := hid hK0; clear hK0
            have HBW := hid hB
            have hsW := hB.size
            have GB := hid (HB6.out.trans (hB.mono HB6.out.size))
            clear hd
            simp only [putF]
            rw [hA]
            go_frame
            go_wp2_with fail
            exact hK.out _ _ _ (by rw [hA]; simp only [putF]; kernel_rfl) (Below.refl _ _) rfl
          · intro K us W hK0 hB hd
            have hK := hid hK0; clear hK0
            have HBW := hid hB
            have hsW := hB.size
            have GB := hid (HB6.out.trans (hB.mono HB6.out.size))
            clear hd
            simp only [putF]
            rw [hA]
            go_frame
            go_wp2_with fail
            exact hK.out _ _ _ (by rw [hA]; simp only [putF]; kernel_rfl) (Below.refl _ _) rfl
          · intro K us W hK0 hB hd
            have hK := hid hK0; clear hK0
            have HBW := hid hB
            have hsW := hB.size
            have GB := hid (HB6.out.trans (hB.mono HB6.out.size))
            have e18 : us 18 = .pointer (some ⟨w.heap.size, 11, none⟩) := hd ⟨18, Ground.data⟩ (by simp) rfl
            clear hd
            have KXW := hid (heap_still GB.out KX.out)
            have c11 : W.cell? ⟨w.heap.size, 11, none⟩ = some (.int .i64 x11) := (cell_row (j := 11) KXW.out).trans rfl
            have c12 : W.cell? ⟨w.heap.size, 12, none⟩ = some (.slice ea en ec) := (cell_row (j := 12) KXW.out).trans rfl
            have c13 : W.cell? ⟨w.heap.size, 13, none⟩ = some (.int .i64 x13) := (cell_row (j := 13) KXW.out).trans rfl
            have c14 : W.cell? ⟨w.heap.size, 14, none⟩ = some (.int .i64 x14) := (cell_row (j := 14) KXW.out).trans rfl
            simp only [putF]
            rw [hA, e18]
            go_frame
            go_wp2_with fail
            exact hK.out _ _ _ (by rw [hA]; simp only [putF]; rw [e18]; kernel_rfl) (Below.refl _ _) rfl
          · intro K us W hK0 hB hd
            have hK := hid hK0; clear hK0
            have HBW := hid hB
            have hsW := hB.size
            have GB := hid (HB6.out.trans (hB.mono HB6.out.size))
            have e17 : us 17 = v := hd ⟨17, Ground.data⟩ (by simp) rfl
            have e19 : us 19 = .agg #[.int .i64 x11, .slice ea en ec, .int .i64 x13, .int .i64 x14] := hd ⟨19, Ground.data⟩ (by simp) rfl
            clear hd
            simp only [putF]
            rw [hA, e17, e19]
            go_frame
            go_wp2_with fail
            refine (pcorrect_any v _ _ _ _ _ (ND.out.still GB.out)).mono ?_
            rintro r W9 ⟨rfl, hb9⟩
            go_wp2_with fail
            exact hK.out _ _ _ (by rw [hA]; simp only [putF]; rw [e17, e19]; kernel_rfl) hb9 rfl
          · intro K us W hK0 hB hd
            have hK := hid hK0; clear hK0
            have HBW := hid hB
            have hsW := hB.size
            have GB := hid (HB6.out.trans (hB.mono HB6.out.size))
            clear hd
            simp only [putF]
            rw [hA]
            go_frame
            go_wp2_with fail
            exact hK.out _ _ _ (by rw [hA]; simp only [putF]; kernel_rfl) (Below.refl _ _) rfl
          · intro K us W hK0 hB hd
            have hK := hid hK0; clear hK0
            have HBW := hid hB
            have hsW := hB.size
            have GB := hid (HB6.out.trans (hB.mono HB6.out.size))
            clear hd
            simp only [putF]
            rw [hA]
            go_frame
            go_wp2_with fail
            exact hK.out _ _ _ (by rw [hA]; simp only [putF]; kernel_rfl) (Below.refl _ _) rfl
          · intro K us W hK0 hB hd
            have hK := hid hK0; clear hK0
            have HBW := hid hB
            have hsW := hB.size
            have GB := hid (HB6.out.trans (hB.mono HB6.out.size))
            have e22 : us 22 = .pointer (some ⟨w.heap.size, 1, none⟩) := hd ⟨22, Ground.data⟩ (by simp) rfl
            clear hd
            have KXW := hid (heap_still GB.out KX.out)
            have c1 : W.cell? ⟨w.heap.size, 1, none⟩ = some (.int .i64 x1) := (cell_row (j := 1) KXW.out).trans rfl
            simp only [putF]
            rw [hA, e22]
            go_frame
            go_wp2_with fail
            exact hK.out _ _ _ (by rw [hA]; simp only [putF]; rw [e22]; kernel_rfl) (Below.refl _ _) rfl
          · intro K us W hK0 hB hd
            have hK := hid hK0; clear hK0
            have HBW := hid hB
            have hsW := hB.size
            have GB := hid (HB6.out.trans (hB.mono HB6.out.size))
            clear hd
            simp only [putF]
            rw [hA]
            go_frame
            go_wp2_with fail
            exact hK.out _ _ _ (by rw [hA]; simp only [putF]; kernel_rfl) (Below.refl _ _) rfl
          · intro K us W hK0 hB hd
            have hK := hid hK0; clear hK0
            have HBW := hid hB
            have hsW := hB.size
            have GB := hid (HB6.out.trans (hB.mono HB6.out.size))
            have e24 : us 24 = .pointer (some ⟨w.heap.size, 2, none⟩) := hd ⟨24, Ground.data⟩ (by simp) rfl
            clear hd
            have KXW := hid (heap_still GB.out KX.out)
            have c2 : W.cell? ⟨w.heap.size, 2, none⟩ = some (.int .i64 x2) := (cell_row (j := 2) KXW.out).trans rfl
            simp only [putF]
            rw [hA, e24]
            go_frame
            go_wp2_with fail
            exact hK.out _ _ _ (by rw [hA]; simp only [putF]; rw [e24]; kernel_rfl) (Below.refl _ _) rfl
          · intro K us W hK0 hB hd
            have hK := hid hK0; clear hK0
            have HBW := hid hB
            have hsW := hB.size
            have GB := hid (HB6.out.trans (hB.mono HB6.out.size))
            have e21 : us 21 = v := hd ⟨21, Ground.data⟩ (by simp) rfl
            have e23 : us 23 = .int .i64 x1 := hd ⟨23, Ground.data⟩ (by simp) rfl
            have e25 : us 25 = .int .i64 x2 := hd ⟨25, Ground.data⟩ (by simp) rfl
            clear hd
            simp only [putF]
            rw [hA, e21, e23, e25]
            go_frame
            go_wp2_with fail
            refine (pbreak_any v _ _ _ (ND.out.still GB.out)).mono ?_
            rintro r W9 ⟨rfl, hb9⟩
            go_wp2_with fail
            exact hK.out _ _ _ (by rw [hA]; simp only [putF]; rw [e21, e23, e25]; kernel_rfl) hb9 rfl
          · intro K us W hK0 hB hd
            have hK := hid hK0; clear hK0
            have HBW := hid hB
            have hsW := hB.size
            have GB := hid (HB6.out.trans (hB.mono HB6.out.size))
            clear hd
            simp only [putF]
            rw [hA]
            go_frame
            go_wp2_with fail
            exact hK.out _ _ _ (by rw [hA]; simp only [putF]; kernel_rfl) (Below.refl _ _) rfl
          · intro K us W hK0 hB hd
            have hK := hid hK0; clear hK0
            have HBW := hid hB
            have hsW := hB.size
            have GB := hid (HB6.out.trans (hB.mono HB6.out.size))
            have e27 : us 27 = v := hd ⟨27, Ground.data⟩ (by simp) rfl
            clear hd
            simp only [putF]
            rw [hA, e27]
            go_frame
            go_wp2_with fail
            refine (preopen_any v _ (ND.out.still GB.out)).mono ?_
            rintro r W9 ⟨rfl, hb9⟩
            go_wp2_with fail
            exact hK.out _ _ _ (by rw [hA]; simp only [putF]; rw [e27]; kernel_rfl) hb9 rfl
          · intro K us W hK0 hB hd
            have hK := hid hK0; clear hK0
            have HBW := hid hB
            have hsW := hB.size
            have GB := hid (HB6.out.trans (hB.mono HB6.out.size))
            have e0 : us 0 = .int .i64 2 := hd ⟨0, Ground.data⟩ (by simp) rfl
            have e1 : us 1 = .int .i64 2 := hd ⟨1, Ground.data⟩ (by simp) rfl
            have e2 : us 2 = .int .i64 2 := hd ⟨2, Ground.data⟩ (by simp) rfl
            have e3 : us 3 = .int .i64 2 := hd ⟨3, Ground.data⟩ (by simp) rfl
            have e4 : us 4 = .int .i64 2 := hd ⟨4, Ground.data⟩ (by simp) rfl
            have e5 : us 5 = .int .i64 2 := hd ⟨5, Ground.data⟩ (by simp) rfl
            have e6 : us 6 = .int .i64 2 := hd ⟨6, Ground.data⟩ (by simp) rfl
            have e12 : us 12 = .int .i64 2 := hd ⟨12, Ground.data⟩ (by simp) rfl
            have e16 : us 16 = .int .i64 2 := hd ⟨16, Ground.data⟩ (by simp) rfl
            have e20 : us 20 = .int .i64 2 := hd ⟨20, Ground.data⟩ (by simp) rfl
            have e26 : us 26 = .int .i64 2 := hd ⟨26, Ground.data⟩ (by simp) rfl
            have e28 : us 28 = .int .i64 2 := hd ⟨28, Ground.data⟩ (by simp) rfl
            clear hd
            simp only [putF]
            rw [hA, e0, e1, e2, e3, e4, e5, e6, e12, e16, e20, e26, e28]
            go_frame
            go_wp2_with fail
            exact hK.out _ _ _ (by rw [hA]; simp only [putF]; rw [e0, e1, e2, e3, e4, e5, e6, e12, e16, e20, e26, e28]; kernel_rfl) ((Below.refl _ _).alloc (Nat.le_refl _) _) ⟨W.heap.size, rfl, heap_alloc_at _ _ _ rfl⟩
          · intro K us W hK0 hB hd
            have hK := hid hK0; clear hK0
            have HBW := hid hB
            have hsW := hB.size
            have GB := hid (HB6.out.trans (hB.mono HB6.out.size))
            have hd29 : (ErrsV) W (us 29) := hd ⟨29, Ground.data⟩ (by simp) rfl
            obtain ⟨gE, e29, hE9⟩ := hd29
            clear hd
            simp only [putF]
            rw [hA, e29]
            go_frame
            go_wp2_with fail
            exact hK.out _ _ _ (by rw [hA]; simp only [putF]; rw [e29]; kernel_rfl) (Below.refl _ _) rfl
          · intro K us W hK0 hB hd
            have hK := hid hK0; clear hK0
            have HBW := hid hB
            have hsW := hB.size
            have GB := hid (HB6.out.trans (hB.mono HB6.out.size))
            clear hd
            simp only [putF]
            rw [hA]
            go_frame
            go_wp2_with fail
            exact hK.out _ _ _ (by rw [hA]; simp only [putF]; kernel_rfl) (Below.refl _ _) rfl
        case hendN =>
          intro us W7 hB1 hall
          have HB7 := hid (HB6.out.trans (hB1.mono HB6.out.size))
          have HSN := hid hB1
          have e0 : us 0 = .int .i64 2 := hall 0 (by decide)
          have e1 : us 1 = .int .i64 2 := hall 1 (by decide)
          have e2 : us 2 = .int .i64 2 := hall 2 (by decide)
          have e3 : us 3 = .int .i64 2 := hall 3 (by decide)
          have e4 : us 4 = .int .i64 2 := hall 4 (by decide)
          have e5 : us 5 = .int .i64 2 := hall 5 (by decide)
          have e6 : us 6 = .int .i64 2 := hall 6 (by decide)
          have e7 : us 7 = v := hall 7 (by decide)
          have e8 : us 8 = .pointer (some ⟨w.heap.size, 1, none⟩) := hall 8 (by decide)
          have e9 : us 9 = .int .i64 x1 := hall 9 (by decide)
          have e10 : us 10 = .pointer (some ⟨w.heap.size, 2, none⟩) := hall 10 (by decide)
          have e11 : us 11 = .int .i64 x2 := hall 11 (by decide)
          have e12 : us 12 = .int .i64 2 := hall 12 (by decide)
          have e13 : us 13 = v := hall 13 (by decide)
          have e14 : us 14 = .pointer (some ⟨w.heap.size, 4, none⟩) := hall 14 (by decide)
          have e15 : us 15 = .agg #[.int .i64 x4, .int .i64 x5, .int .i64 x6, .int .i64 x7, .int .i64 x8, .int .i64 x9, .int .i64 x10] := hall 15 (by decide)
          have e16 : us 16 = .int .i64 2 := hall 16 (by decide)
          have e17 : us 17 = v := hall 17 (by decide)
          have e18 : us 18 = .pointer (some ⟨w.heap.size, 11, none⟩) := hall 18 (by decide)
          have e19 : us 19 = .agg #[.int .i64 x11, .slice ea en ec, .int .i64 x13, .int .i64 x14] := hall 19 (by decide)
          have e20 : us 20 = .int .i64 2 := hall 20 (by decide)
          have e21 : us 21 = v := hall 21 (by decide)
          have e22 : us 22 = .pointer (some ⟨w.heap.size, 1, none⟩) := hall 22 (by decide)
          have e23 : us 23 = .int .i64 x1 := hall 23 (by decide)
          have e24 : us 24 = .pointer (some ⟨w.heap.size, 2, none⟩) := hall 24 (by decide)
          have e25 : us 25 = .int .i64 x2 := hall 25 (by decide)
          have e26 : us 26 = .int .i64 2 := hall 26 (by decide)
          have e27 : us 27 = v := hall 27 (by decide)
          have e28 : us 28 = .int .i64 2 := hall 28 (by decide)
          obtain ⟨gE, e29, hE⟩ : ErrsV W7 (us 29) := hall 29 (by decide)
          have e30 : us 30 = .int .i64 12 := hall 30 (by decide)
          have e31 : us 31 = .int .i64 0 := hall 31 (by decide)
          have KE := hid hE
          have K57 := hid (heap_still hB1 K56.out)
          have HX := hid (HX6.out.trans (hB1.mono HX6.out.size))
          clear hall hB1 hE HX6 K56 HB6 HB7 HSN
          simp only [putF]
          rw [hA, e0, e1, e2, e3, e4, e5, e6, e7, e8, e9, e10, e11, e12, e13, e14, e15, e16, e17, e18, e19, e20, e21, e22, e23, e24, e25, e26, e27, e28, e29, e30, e31]
          go_frame
          clear e0 e1 e2 e3 e4 e5 e6 e7 e8 e9 e10 e11 e12 e13 e14 e15 e16 e17 e18 e19 e20 e21 e22 e23 e24 e25 e26 e27 e28 e29 e30 e31 hA
          go_wp2_with fail
          go_loopw [126] (fun jv wr' => ∃ j : Nat, j ≤ 12 ∧ jv = .int .i64 (j : Int) ∧ Below W7.heap.size W7 wr') (fun jv _ => 12 - (intOf jv).toNat)
          case atStart => exact ⟨0, by omega, rfl, Below.refl _ _⟩
          case round =>
            obtain ⟨j, hj, rfl, hB5⟩ := hrel
            have HB5 := hid hB5
            clear hB5
            by_cases hjl : j < 12
            · have e6 : decide ((j : Int) < 12) = true := decide_eq_true (by omega)
              have hc : wr.cell? ⟨gE, j, none⟩ = some (.int .i64 2) := (cell_row (j := j) (heap_still HB5.out KE.out)).trans (by match j, hjl with | 0, _ | 1, _ | 2, _ | 3, _ | 4, _ | 5, _ | 6, _ | 7, _ | 8, _ | 9, _ | 10, _ | 11, _ => rfl)
              go_wp2_with fail
              exact ⟨⟨j + 1, by omega, by go_num, HB5.out⟩, by simp [intOf]; omega⟩
            · have e6 : decide ((j : Int) < 12) = false := decide_eq_false (by omega)
              have HX := hid (HX.out.trans (HB5.out.mono HX.out.size))
              have KQ := hid (heap_still HB5.out K57.out)
              have q0 : wr.cell? ⟨z5, 0, none⟩ = some (.int .i64 0) := (cell_row (j := 0) KQ.out).trans rfl
              have q1 : wr.cell? ⟨z5, 1, none⟩ = some (.int .i64 0) := (cell_row (j := 1) KQ.out).trans rfl
              have q2 : wr.cell? ⟨z5, 2, none⟩ = some (.int .i64 0) := (cell_row (j := 2) KQ.out).trans rfl
              have q3 : wr.cell? ⟨z5, 3, none⟩ = some (.int .i64 0) := (cell_row (j := 3) KQ.out).trans rfl
              clear HB5 KE K57 KQ
              go_wp2_with fail
              clear q0 q1 q2 q3
              refine (pstrips_any v _ (ND.out.still HX.out)).mono ?_
              rintro r w1 ⟨rfl, hb⟩
              have HX := hid (HX.out.trans (hb.mono HX.out.size))
              clear hb
              go_wp2_with fail
              refine (pversion_any v _ (ND.out.still HX.out)).mono ?_
              rintro r w1 ⟨rfl, hb⟩
              have HX := hid (HX.out.trans (hb.mono HX.out.size))
              clear hb
              go_wp2_with fail
              exact ⟨⟨i + 1, by omega, by go_num, HB.out.trans (HX.out.mono HB.out.size)⟩, by simp [intOf]; omega⟩
      · have e3 : decide ((i : Int) < 2) = false := decide_eq_false (by omega)
        have HBE := hid (HB2.out.trans (HB.out.mono hz2))
        go_wp2_with fail
        refine (pawake_any _).mono ?_
        rintro r w9 ⟨rfl, hb⟩
        go_wp2_with fail
        go_ret
        exact ⟨rfl, HBE.out.trans (hb.mono HBE.out.size)⟩
section
variable {H : Type} {enc : TypeId × Value → H} {w : World} {base : Nat} {spare : Nat → Bool} {held : Bool}
theorem slice_cell {P : Program} {fuel : Nat} {t e : TypeId} {v : Value} {x : DataW H × List MemPlace} (hu : P.underlying t = some (.slice e)) (hx : DataW.trod enc P w base spare held fuel t [v] = some x) :
    ∃ a n c, v = .slice a n c ∧ n ≤ maxLen := by
  rcases Go.Deep.open_slice hu hx with ⟨h0, _⟩ | ⟨a, len', cap', m, n, D, Pl, h1, hb, hl, hm, hmm, _, hall⟩
  · simp at h0
    exact ⟨none, 0, 0, h0, by simp⟩
  · simp at h1
    exact ⟨_, _, _, h1, by omega⟩
theorem int_cell {fuel : Nat} {v : Value} {x : DataW H × List MemPlace} (hx : DataW.trod enc Tryz.prog w base spare held fuel 3 [v] = some x) : ∃ z : Int, v = .int .i64 z := by
  have k := trod_flat 10 3 [some .i64] _ _ _ (by kernel_rfl) rfl hx
  obtain ⟨z, vs, e, _, h2⟩ := fits_int (show fitsW (some .i64 :: []) _ from k)
  injection e with e1 e2
  exact ⟨z, e1⟩
theorem ints_cell_n {fuel : Nat} {t : TypeId} (n : Nat) {vs : List Value} {x : DataW H × List MemPlace} (hf : flatOf Tryz.prog 10 t = some (List.replicate n (some .i64))) (hl : vs.length = n) (hx : DataW.trod enc Tryz.prog w base spare held fuel t vs = some x) : ∃ zs : List Int, zs.length = n ∧ vs = zs.map (Value.int .i64) :=
  int_cells (n := n) (trod_flat 10 t (List.replicate n (some .i64)) _ _ _ hf (by simpa using hl) hx)
theorem cz3 : Tryz.prog.cellsOf 3 = 1 := by kernel_rfl
theorem cz38 : Tryz.prog.cellsOf 38 = 1 := by kernel_rfl
theorem cz41 : Tryz.prog.cellsOf 41 = 7 := by kernel_rfl
theorem cz44 : Tryz.prog.cellsOf 44 = 4 := by kernel_rfl
theorem cz47 : Tryz.prog.cellsOf 47 = 4 := by kernel_rfl
theorem cz49 : Tryz.prog.cellsOf 49 = 2 := by kernel_rfl
theorem cz51 : Tryz.prog.cellsOf 51 = 5 := by kernel_rfl
theorem cz52 : Tryz.prog.cellsOf 52 = 2 := by kernel_rfl
theorem cz42 : Tryz.prog.cellsOf 42 = 1 := by kernel_rfl
theorem cz45 : Tryz.prog.cellsOf 45 = 1 := by kernel_rfl
theorem cz54 : Tryz.prog.cellsOf 54 = 32 := by kernel_rfl
set_option maxRecDepth 100000 in
theorem open_call {r : Reach} {b0 : Nat} {v : Value} {d : DataW H} {p : List MemPlace} (hv : Value.okWide Tryz.prog w r b0 54 v) (h : DataW.Trod enc Tryz.prog w base spare held 54 v d p) :
    ∃ (x0 x1 x2 x4 x5 x6 x7 x8 x9 x10 x11 x13 x14 x15 x18 x19 x20 x21 x22 x23 x24 x25 x26 x27 x28 x29 x30 x31 : Int) (ba : Option Addr) (bn bc : Nat) (ea : Option Addr) (en ec : Nat) (oa : Option Addr) (on oc : Nat) (ca : Option Addr) (cn cc : Nat), v = .agg #[.int .i64 x0, .int .i64 x1, .int .i64 x2, .slice ba bn bc, .int .i64 x4, .int .i64 x5, .int .i64 x6, .int .i64 x7, .int .i64 x8, .int .i64 x9, .int .i64 x10, .int .i64 x11, .slice ea en ec, .int .i64 x13, .int .i64 x14, .int .i64 x15, .slice oa on oc, .slice ca cn cc, .int .i64 x18, .int .i64 x19, .int .i64 x20, .int .i64 x21, .int .i64 x22, .int .i64 x23, .int .i64 x24, .int .i64 x25, .int .i64 x26, .int .i64 x27, .int .i64 x28, .int .i64 x29, .int .i64 x30, .int .i64 x31] ∧ bn ≤ maxLen ∧ en ≤ maxLen ∧ on ≤ maxLen ∧ cn ≤ maxLen := by
  obtain ⟨cs, rfl, hsz⟩ := open_agg64 cz54 (by kernel_rfl) hv
  clear hv
  obtain ⟨fuel, hx⟩ := h
  match cs, hsz with
  | [y0, y1, y2, y3, y4, y5, y6, y7, y8, y9, y10, y11, y12, y13, y14, y15, y16, y17, y18, y19, y20, y21, y22, y23, y24, y25, y26, y27, y28, y29, y30, y31], _ =>
    obtain ⟨xs, m, _, _, _, hxl, hf⟩ := DataW.trod_struct Tryz.underlying54 (show DataW.trod enc Tryz.prog w base spare held fuel 54 _ = _ from by simpa [Value.cells] using hx)
    have h0 := hf 0 _ rfl
    rw [List.getElem?_eq_getElem (by rw [hxl]; decide)] at h0
    replace h0 := show DataW.trod enc Tryz.prog w base spare held m 3 [y0] = _ from by simpa [cz3, cz38, cz41, cz44, cz47, cz49, cz51, cz52, cz42, cz45] using h0
    obtain ⟨x0, rfl⟩ := int_cell h0
    have h1 := hf 1 _ rfl
    rw [List.getElem?_eq_getElem (by rw [hxl]; decide)] at h1
    replace h1 := show DataW.trod enc Tryz.prog w base spare held m 3 [y1] = _ from by simpa [cz3, cz38, cz41, cz44, cz47, cz49, cz51, cz52, cz42, cz45] using h1
    obtain ⟨x1, rfl⟩ := int_cell h1
    have h2 := hf 2 _ rfl
    rw [List.getElem?_eq_getElem (by rw [hxl]; decide)] at h2
    replace h2 := show DataW.trod enc Tryz.prog w base spare held m 3 [y2] = _ from by simpa [cz3, cz38, cz41, cz44, cz47, cz49, cz51, cz52, cz42, cz45] using h2
    obtain ⟨x2, rfl⟩ := int_cell h2
    have h3 := hf 3 _ rfl
    rw [List.getElem?_eq_getElem (by rw [hxl]; decide)] at h3
    replace h3 := show DataW.trod enc Tryz.prog w base spare held m 38 [y3] = _ from by simpa [cz3, cz38, cz41, cz44, cz47, cz49, cz51, cz52, cz42, cz45] using h3
    obtain ⟨ba, bn, bc, rfl, hbn⟩ := slice_cell Tryz.underlying38 h3
    have h4 := hf 4 _ rfl
    rw [List.getElem?_eq_getElem (by rw [hxl]; decide)] at h4
    replace h4 := show DataW.trod enc Tryz.prog w base spare held m 41 [y4, y5, y6, y7, y8, y9, y10] = _ from by simpa [cz3, cz38, cz41, cz44, cz47, cz49, cz51, cz52, cz42, cz45] using h4
    obtain ⟨zs4, hzl4, e4⟩ := ints_cell_n 7 (by kernel_rfl) rfl h4
    obtain ⟨x4, x5, x6, x7, x8, x9, x10, rfl⟩ : ∃ a4 a5 a6 a7 a8 a9 a10 : Int, zs4 = [a4, a5, a6, a7, a8, a9, a10] := by
      match zs4, hzl4 with
      | [a4, a5, a6, a7, a8, a9, a10], _ => exact ⟨_, _, _, _, _, _, _, rfl⟩
    simp only [List.map_cons, List.map_nil, List.cons.injEq, and_true] at e4
    obtain ⟨rfl, rfl, rfl, rfl, rfl, rfl, rfl⟩ := e4
    have h5 := hf 5 _ rfl
    rw [List.getElem?_eq_getElem (by rw [hxl]; decide)] at h5
    replace h5 := show DataW.trod enc Tryz.prog w base spare held m 44 [y11, y12, y13, y14] = _ from by simpa [cz3, cz38, cz41, cz44, cz47, cz49, cz51, cz52, cz42, cz45] using h5
    obtain ⟨ys5, m5, _, _, _, hyl5, hg5⟩ := DataW.trod_struct Tryz.underlying44 h5
    have g11 := hg5 0 _ rfl
    rw [List.getElem?_eq_getElem (by rw [hyl5]; decide)] at g11
    replace g11 := show DataW.trod enc Tryz.prog w base spare held m5 3 [y11] = _ from by simpa [cz3, cz38, cz41, cz44, cz47, cz49, cz51, cz52, cz42, cz45] using g11
    obtain ⟨x11, rfl⟩ := int_cell g11
    have g12 := hg5 1 _ rfl
    rw [List.getElem?_eq_getElem (by rw [hyl5]; decide)] at g12
    replace g12 := show DataW.trod enc Tryz.prog w base spare held m5 42 [y12] = _ from by simpa [cz3, cz38, cz41, cz44, cz47, cz49, cz51, cz52, cz42, cz45] using g12
    obtain ⟨ea, en, ec, rfl, hen⟩ := slice_cell Tryz.underlying42 g12
    have g13 := hg5 2 _ rfl
    rw [List.getElem?_eq_getElem (by rw [hyl5]; decide)] at g13
    replace g13 := show DataW.trod enc Tryz.prog w base spare held m5 3 [y13] = _ from by simpa [cz3, cz38, cz41, cz44, cz47, cz49, cz51, cz52, cz42, cz45] using g13
    obtain ⟨x13, rfl⟩ := int_cell g13
    have g14 := hg5 3 _ rfl
    rw [List.getElem?_eq_getElem (by rw [hyl5]; decide)] at g14
    replace g14 := show DataW.trod enc Tryz.prog w base spare held m5 3 [y14] = _ from by simpa [cz3, cz38, cz41, cz44, cz47, cz49, cz51, cz52, cz42, cz45] using g14
    obtain ⟨x14, rfl⟩ := int_cell g14
    have h6 := hf 6 _ rfl
    rw [List.getElem?_eq_getElem (by rw [hxl]; decide)] at h6
    replace h6 := show DataW.trod enc Tryz.prog w base spare held m 47 [y15, y16, y17, y18] = _ from by simpa [cz3, cz38, cz41, cz44, cz47, cz49, cz51, cz52, cz42, cz45] using h6
    obtain ⟨ys6, m6, _, _, _, hyl6, hg6⟩ := DataW.trod_struct Tryz.underlying47 h6
    have g15 := hg6 0 _ rfl
    rw [List.getElem?_eq_getElem (by rw [hyl6]; decide)] at g15
    replace g15 := show DataW.trod enc Tryz.prog w base spare held m6 3 [y15] = _ from by simpa [cz3, cz38, cz41, cz44, cz47, cz49, cz51, cz52, cz42, cz45] using g15
    obtain ⟨x15, rfl⟩ := int_cell g15
    have g16 := hg6 1 _ rfl
    rw [List.getElem?_eq_getElem (by rw [hyl6]; decide)] at g16
    replace g16 := show DataW.trod enc Tryz.prog w base spare held m6 42 [y16] = _ from by simpa [cz3, cz38, cz41, cz44, cz47, cz49, cz51, cz52, cz42, cz45] using g16
    obtain ⟨oa, on, oc, rfl, hon⟩ := slice_cell Tryz.underlying42 g16
    have g17 := hg6 2 _ rfl
    rw [List.getElem?_eq_getElem (by rw [hyl6]; decide)] at g17
    replace g17 := show DataW.trod enc Tryz.prog w base spare held m6 45 [y17] = _ from by simpa [cz3, cz38, cz41, cz44, cz47, cz49, cz51, cz52, cz42, cz45] using g17
    obtain ⟨ca, cn, cc, rfl, hcn⟩ := slice_cell Tryz.underlying45 g17
    have g18 := hg6 3 _ rfl
    rw [List.getElem?_eq_getElem (by rw [hyl6]; decide)] at g18
    replace g18 := show DataW.trod enc Tryz.prog w base spare held m6 3 [y18] = _ from by simpa [cz3, cz38, cz41, cz44, cz47, cz49, cz51, cz52, cz42, cz45] using g18
    obtain ⟨x18, rfl⟩ := int_cell g18
    have h7 := hf 7 _ rfl
    rw [List.getElem?_eq_getElem (by rw [hxl]; decide)] at h7
    replace h7 := show DataW.trod enc Tryz.prog w base spare held m 49 [y19, y20] = _ from by simpa [cz3, cz38, cz41, cz44, cz47, cz49, cz51, cz52, cz42, cz45] using h7
    obtain ⟨zs7, hzl7, e7⟩ := ints_cell_n 2 (by kernel_rfl) rfl h7
    obtain ⟨x19, x20, rfl⟩ : ∃ a19 a20 : Int, zs7 = [a19, a20] := by
      match zs7, hzl7 with
      | [a19, a20], _ => exact ⟨_, _, rfl⟩
    simp only [List.map_cons, List.map_nil, List.cons.injEq, and_true] at e7
    obtain ⟨rfl, rfl⟩ := e7
    have h8 := hf 8 _ rfl
    rw [List.getElem?_eq_getElem (by rw [hxl]; decide)] at h8
    replace h8 := show DataW.trod enc Tryz.prog w base spare held m 49 [y21, y22] = _ from by simpa [cz3, cz38, cz41, cz44, cz47, cz49, cz51, cz52, cz42, cz45] using h8
    obtain ⟨zs8, hzl8, e8⟩ := ints_cell_n 2 (by kernel_rfl) rfl h8
    obtain ⟨x21, x22, rfl⟩ : ∃ a21 a22 : Int, zs8 = [a21, a22] := by
      match zs8, hzl8 with
      | [a21, a22], _ => exact ⟨_, _, rfl⟩
    simp only [List.map_cons, List.map_nil, List.cons.injEq, and_true] at e8
    obtain ⟨rfl, rfl⟩ := e8
    have h9 := hf 9 _ rfl
    rw [List.getElem?_eq_getElem (by rw [hxl]; decide)] at h9
    replace h9 := show DataW.trod enc Tryz.prog w base spare held m 51 [y23, y24, y25, y26, y27] = _ from by simpa [cz3, cz38, cz41, cz44, cz47, cz49, cz51, cz52, cz42, cz45] using h9
    obtain ⟨zs9, hzl9, e9⟩ := ints_cell_n 5 (by kernel_rfl) rfl h9
    obtain ⟨x23, x24, x25, x26, x27, rfl⟩ : ∃ a23 a24 a25 a26 a27 : Int, zs9 = [a23, a24, a25, a26, a27] := by
      match zs9, hzl9 with
      | [a23, a24, a25, a26, a27], _ => exact ⟨_, _, _, _, _, rfl⟩
    simp only [List.map_cons, List.map_nil, List.cons.injEq, and_true] at e9
    obtain ⟨rfl, rfl, rfl, rfl, rfl⟩ := e9
    have h10 := hf 10 _ rfl
    rw [List.getElem?_eq_getElem (by rw [hxl]; decide)] at h10
    replace h10 := show DataW.trod enc Tryz.prog w base spare held m 3 [y28] = _ from by simpa [cz3, cz38, cz41, cz44, cz47, cz49, cz51, cz52, cz42, cz45] using h10
    obtain ⟨x28, rfl⟩ := int_cell h10
    have h11 := hf 11 _ rfl
    rw [List.getElem?_eq_getElem (by rw [hxl]; decide)] at h11
    replace h11 := show DataW.trod enc Tryz.prog w base spare held m 3 [y29] = _ from by simpa [cz3, cz38, cz41, cz44, cz47, cz49, cz51, cz52, cz42, cz45] using h11
    obtain ⟨x29, rfl⟩ := int_cell h11
    have h12 := hf 12 _ rfl
    rw [List.getElem?_eq_getElem (by rw [hxl]; decide)] at h12
    replace h12 := show DataW.trod enc Tryz.prog w base spare held m 52 [y30, y31] = _ from by simpa [cz3, cz38, cz41, cz44, cz47, cz49, cz51, cz52, cz42, cz45] using h12
    obtain ⟨zs12, hzl12, e12⟩ := ints_cell_n 2 (by kernel_rfl) rfl h12
    obtain ⟨x30, x31, rfl⟩ : ∃ a30 a31 : Int, zs12 = [a30, a31] := by
      match zs12, hzl12 with
      | [a30, a31], _ => exact ⟨_, _, rfl⟩
    simp only [List.map_cons, List.map_nil, List.cons.injEq, and_true] at e12
    obtain ⟨rfl, rfl⟩ := e12
    exact ⟨x0, x1, x2, x4, x5, x6, x7, x8, x9, x10, x11, x13, x14, x15, x18, x19, x20, x21, x22, x23, x24, x25, x26, x27, x28, x29, x30, x31, ba, bn, bc, ea, en, ec, oa, on, oc, ca, cn, cc, rfl, hbn, hen, hon, hcn⟩
end
set_option maxRecDepth 100000 in
theorem plantNils_lifted (os : Os) (started : os.Started) (H : Type) (enc : TypeId × Value → H) :
    ReturnsInHanded {} Tryz.checked os 4 .any (Rows.plantNilsSpec.pre6 enc Tryz.prog Tryz.f4 Rows.plantNilsRow.domain false) (Rows.plantNilsSpec.post enc Tryz.prog Tryz.f4 false true false false) := by
  refine law_lifted (C := Tryz.checked) (tb := 4) lawOwn started (by kernel_rfl) Tryz.func4 rfl ?_ (show Tryz.f4.resultTypes = #[4] by kernel_rfl) Tryz.underlying4 lawLaid ?_
    (ChangeSpec.witness6 (enc := enc) (C := Tryz.checked) false ⟨#[], #[.agg #[.int .i64 0, .int .i64 0, .int .i64 0, .slice none 0 0, .int .i64 0, .int .i64 0, .int .i64 0, .int .i64 0, .int .i64 0, .int .i64 0, .int .i64 0, .int .i64 0, .slice none 0 0, .int .i64 0, .int .i64 0, .int .i64 0, .slice none 0 0, .slice none 0 0, .int .i64 0, .int .i64 0, .int .i64 0, .int .i64 0, .int .i64 0, .int .i64 0, .int .i64 0, .int .i64 0, .int .i64 0, .int .i64 0, .int .i64 0, .int .i64 0, .int .i64 0, .int .i64 0]], []⟩ 8 (by kernel_rfl) (by kernel_rfl) (by kernel_rfl) (by kernel_rfl)) ?_
  · intro ds hds
    match ds, hds with
    | [d1], _ => exact ⟨rfl, rfl, rfl⟩
  · rw [Tryz.params4]
    intro t ht
    simp at ht
    rcases ht with rfl
    all_goals exact ⟨by kernel_rfl, of_decide_eq_true (by kernel_rfl)⟩
  · intro W base args ds p hval hA hlt _
    change DataW.TrodAll enc Tryz.prog W 0 (fun _ => true) true Tryz.f4.params.toList args.toList ds p at hA
    change ∀ (j : Nat) t v, Tryz.f4.params[j]? = some t → args[j]? = some v → Value.okWide Tryz.prog W .any base t v at hval
    rw [Tryz.params4] at hA hval
    obtain ⟨v0, vs0, e0, ds0, p0, q0, hargs, rfl, rfl, h0, r0⟩ := trodAll_cons hA
    obtain ⟨rfl, rfl, rfl⟩ := trodAll_nil r0
    obtain rfl : args = #[v0] := by cases args; simp_all
    obtain ⟨x0, x1, x2, x4, x5, x6, x7, x8, x9, x10, x11, x13, x14, x15, x18, x19, x20, x21, x22, x23, x24, x25, x26, x27, x28, x29, x30, x31, ba, bn, bc, ea, en, ec, oa, on, oc, ca, cn, cc, rfl, h1, h2, h3, h4⟩ := open_call (hval 0 54 v0 rfl rfl) h0
    exact nils_law x0 x1 x2 x4 x5 x6 x7 x8 x9 x10 x11 x13 x14 x15 x18 x19 x20 x21 x22 x23 x24 x25 x26 x27 x28 x29 x30 x31 ba bn bc ea en ec oa on oc ca cn cc W (by unfold maxLen at h1; omega) (by unfold maxLen at h2; omega) (by unfold maxLen at h3; omega) (by unfold maxLen at h4; omega)
/-- PlantNils, whatever the input. -/
theorem plantNils_holds : Rows.PlantNilsSaid :=
  OpenClaim.holds_of_wide 4 Tryz.f4 rfl rfl rfl rfl rfl rfl rfl ⟨rfl, rfl, rfl, rfl, rfl⟩ rfl rfl rfl rfl rfl (by kernel_rfl) Tryz.func4 closed4
    (of_decide_eq_true (by kernel_rfl)) (by unfold Func.isWrapper; rw [if_neg (of_decide_eq_false (by kernel_rfl))]; exact ⟨rfl, rfl⟩)
    (fun os started H enc _ => plantNils_lifted os started H enc)
#print axioms plantNils_holds
end Go.Proofs.YtpfighhhemnhaaaGreat
