/- The program's disk: none 66, refused 109, Down 82, spend 135, begin 106, Arm 74. -/
import Derived.Test.YteanlcefdoigcaaDiskM
import Derived.Deep.Cut
namespace Go.Proofs.Yteanlcefdoigcaa
open Go.RowKit

theorem xnone_any (g : Nat) (w : World) (h : w.cell? ⟨g, 0, none⟩ = some (.bool true)) : Calls Try.prog 66 #[.pointer (some ⟨g, 0, none⟩)] w fun r w' => r = .returned (.bool false) ∧ Below w.heap.size w w' := by
  go_enter Try.func66, Try.ntmps66
  go_wp2_with fail
  go_ret
  exact ⟨rfl, Below.refl _ _⟩
section
variable {w : World} {B g : Nat} {dn : Bool} {lf : Int} {f0 f1 : Fl}
theorem DX.c0 (h : DX w B g dn lf f0 f1) : w.cell? ⟨g, 0, none⟩ = some (.bool true) := (cell_row (j := 0) h.hg).trans rfl
theorem DX.c1 (h : DX w B g dn lf f0 f1) : w.cell? ⟨g, 1, none⟩ = some (.bool dn) := (cell_row (j := 1) h.hg).trans rfl
theorem DX.c2 (h : DX w B g dn lf f0 f1) : w.cell? ⟨g, 2, none⟩ = some (.int .i64 lf) := (cell_row (j := 2) h.hg).trans rfl
theorem DX.c3 (h : DX w B g dn lf f0 f1) : w.cell? ⟨g, 3, none⟩ = some f0.v := (cell_row (j := 3) h.hg).trans rfl
theorem DX.c4 (h : DX w B g dn lf f0 f1) : w.cell? ⟨g, 4, none⟩ = some (.int .i64 (f0.s : Int)) := (cell_row (j := 4) h.hg).trans rfl
theorem DX.c5 (h : DX w B g dn lf f0 f1) : w.cell? ⟨g, 5, none⟩ = some f1.v := (cell_row (j := 5) h.hg).trans rfl
theorem DX.c6 (h : DX w B g dn lf f0 f1) : w.cell? ⟨g, 6, none⟩ = some (.int .i64 (f1.s : Int)) := (cell_row (j := 6) h.hg).trans rfl
end
theorem DX.still {w w' : World} {B g : Nat} {dn : Bool} {lf : Int} {f0 f1 : Fl} (h : DX w B g dn lf f0 f1) (hb : Below w.heap.size w w') : DX w' B g dn lf f0 f1 := Dsk.still h hb
def refV (i : Int) (dn : Bool) : Int := if i < 0 ∨ 2 ≤ i then 2 else if dn = true then 82 else 0
theorem xrefused_any (g B : Nat) (dn : Bool) (lf i : Int) (f0 f1 : Fl) (w : World) (h : DX w B g dn lf f0 f1) :
    Calls Try.prog 109 #[.pointer (some ⟨g, 0, none⟩), .int .i64 i] w fun r w' => r = .returned (.int .i64 (refV i dn)) ∧ Below w.heap.size w w' := by
  have H := hid h
  clear h
  by_cases h1 : i < 0
  · have HV := hid (show refV i dn = 2 by unfold refV; rw [if_pos (.inl h1)])
    have d1 : decide (i < 0) = true := decide_eq_true h1
    go_enter Try.func109, Try.ntmps109
    go_wp2_with fail
    refine (xnone_any g _ H.out.c0).mono ?_
    rintro r w1 ⟨rfl, hb⟩
    go_wp2_with fail
    go_ret
    exact ⟨by rw [HV.out]; rfl, hb⟩
  have d1 : decide (i < 0) = false := decide_eq_false h1
  by_cases h2 : 2 ≤ i
  · have HV := hid (show refV i dn = 2 by unfold refV; rw [if_pos (.inr h2)])
    have d2 : decide (2 ≤ i) = true := decide_eq_true h2
    go_enter Try.func109, Try.ntmps109
    go_wp2_with fail
    refine (xnone_any g _ H.out.c0).mono ?_
    rintro r w1 ⟨rfl, hb⟩
    go_wp2_with fail
    go_ret
    exact ⟨by rw [HV.out]; rfl, hb⟩
  have d2 : decide (2 ≤ i) = false := decide_eq_false h2
  have HV := hid (show refV i dn = if dn = true then 82 else 0 by unfold refV; rw [if_neg (by omega)])
  cases dn
  all_goals
    go_enter Try.func109, Try.ntmps109
    go_wp2_with fail
    refine (xnone_any g _ H.out.c0).mono ?_
    rintro r w1 ⟨rfl, hb⟩
    have q1 := (H.out.still hb).c1
    go_wp2_with fail
    go_ret
    exact ⟨by rw [HV.out]; rfl, hb⟩
theorem xdown_any (g B : Nat) (dn : Bool) (lf : Int) (f0 f1 : Fl) (w : World) (h : DX w B g dn lf f0 f1) :
    Calls Try.prog 82 #[.pointer (some ⟨g, 0, none⟩)] w fun r w' => r = .returned (.bool dn) ∧ Below w.heap.size w w' := by
  have H := hid h
  clear h
  go_enter Try.func82, Try.ntmps82
  go_wp2_with fail
  refine (xnone_any g _ H.out.c0).mono ?_
  rintro r w1 ⟨rfl, hb⟩
  have q1 := (H.out.still hb).c1
  go_wp2_with fail
  go_ret
  exact ⟨rfl, hb⟩
set_option maxRecDepth 100000 in
theorem xspend_any (g B : Nat) (lf : Int) (f0 f1 : Fl) (w : World) (h : DX w B g false lf f0 f1) (h0 : 0 ≤ lf) (hb : lf ≤ 9223372036854775807) :
    Calls Try.prog 135 #[.pointer (some ⟨g, 0, none⟩)] w fun r w' => r = .returned (.bool (!decide (lf = 1))) ∧ DX w' B g (decide (lf = 1)) (if 0 < lf then lf - 1 else lf) f0 f1 ∧ Fr (fun k => k = g) w w' := by
  have H := hid h
  have c2 := h.c2
  clear h
  by_cases hp : 0 < lf
  · have d0 : decide (0 < lf) = true := decide_eq_true hp
    have HI := hid (show (if 0 < lf then lf - 1 else lf) = lf - 1 from if_pos hp)
    rw [HI.out]
    by_cases h1 : lf = 1
    · have e1 : (lf - 1 == 0) = true := by simp; omega
      rw [show decide (lf = 1) = true from decide_eq_true h1]
      clear h1
      have z2 : w.frozen? ⟨g, 2, none⟩ = false := by have hh := (H.out).hg; simp [World.frozen?, hh]
      go_enter Try.func135, Try.ntmps135
      go_upto_region 3 with fail
      clear c2 z2
      refine gen_world (fun W1 hW1 => ?_)
      have D1 := hid (show Dsk W1 B g 107 #[.bool true, .bool false, .int .i64 (lf - 1), f0.v, .int .i64 (f0.s : Int), f1.v, .int .i64 (f1.s : Int)] f0 f1 by rw [hW1]; exact H.out.set 2 (.int .i64 (lf - 1)))
      have F1 := hid (show Fr (fun k => k = g) w W1 by rw [hW1]; exact Fr.set rfl)
      clear hW1
      have q2 : W1.cell? ⟨g, 2, none⟩ = some (.int .i64 (lf - 1)) := (cell_row (j := 2) D1.out.hg).trans rfl
      have q1 : W1.cell? ⟨g, 1, none⟩ = some (.bool false) := (cell_row (j := 1) D1.out.hg).trans rfl
      have z1 : W1.frozen? ⟨g, 1, none⟩ = false := by have hh := (D1.out).hg; simp [World.frozen?, hh]
      go_upto_region 4 with fail
      clear q2 q1 z1
      refine gen_world (fun W2 hW2 => ?_)
      have D2 := hid (show Dsk W2 B g 107 #[.bool true, .bool true, .int .i64 (lf - 1), f0.v, .int .i64 (f0.s : Int), f1.v, .int .i64 (f1.s : Int)] f0 f1 by rw [hW2]; exact D1.out.set 1 (.bool true))
      have F2 := hid (show Fr (fun k => k = g) w W2 by rw [hW2]; exact F1.out.trans (G := fun k => k = g) (Fr.set rfl) (fun _ _ h => h))
      clear hW2
      have p1 : W2.cell? ⟨g, 1, none⟩ = some (.bool true) := (cell_row (j := 1) D2.out.hg).trans rfl
      go_wp2_with fail
      go_ret
      exact ⟨rfl, D2.out, F2.out⟩
    · have e1 : (lf - 1 == 0) = false := by rw [beq_eq_false_iff_ne]; omega
      rw [show decide (lf = 1) = false from decide_eq_false h1]
      clear h1
      have z2 : w.frozen? ⟨g, 2, none⟩ = false := by have hh := (H.out).hg; simp [World.frozen?, hh]
      go_enter Try.func135, Try.ntmps135
      go_upto_region 3 with fail
      clear c2 z2
      refine gen_world (fun W1 hW1 => ?_)
      have D1 := hid (show Dsk W1 B g 107 #[.bool true, .bool false, .int .i64 (lf - 1), f0.v, .int .i64 (f0.s : Int), f1.v, .int .i64 (f1.s : Int)] f0 f1 by rw [hW1]; exact H.out.set 2 (.int .i64 (lf - 1)))
      have F1 := hid (show Fr (fun k => k = g) w W1 by rw [hW1]; exact Fr.set rfl)
      clear hW1
      have q2 : W1.cell? ⟨g, 2, none⟩ = some (.int .i64 (lf - 1)) := (cell_row (j := 2) D1.out.hg).trans rfl
      have q1 : W1.cell? ⟨g, 1, none⟩ = some (.bool false) := (cell_row (j := 1) D1.out.hg).trans rfl
      have z1 : W1.frozen? ⟨g, 1, none⟩ = false := by have hh := (D1.out).hg; simp [World.frozen?, hh]
      go_upto_region 4 with fail
      clear q2 q1 z1
      refine gen_world (fun W2 hW2 => ?_)
      have D2 := hid (show Dsk W2 B g 107 #[.bool true, .bool false, .int .i64 (lf - 1), f0.v, .int .i64 (f0.s : Int), f1.v, .int .i64 (f1.s : Int)] f0 f1 by rw [hW2]; exact D1.out.set 1 (.bool false))
      have F2 := hid (show Fr (fun k => k = g) w W2 by rw [hW2]; exact F1.out.trans (G := fun k => k = g) (Fr.set rfl) (fun _ _ h => h))
      clear hW2
      have p1 : W2.cell? ⟨g, 1, none⟩ = some (.bool false) := (cell_row (j := 1) D2.out.hg).trans rfl
      go_wp2_with fail
      go_ret
      exact ⟨rfl, D2.out, F2.out⟩
  · obtain rfl : lf = 0 := by omega
    have c1 := H.out.c1
    go_enter Try.func135, Try.ntmps135
    go_wp2_with fail
    go_ret
    exact ⟨rfl, H.out, Fr.refl _ _⟩
end Go.Proofs.Yteanlcefdoigcaa
