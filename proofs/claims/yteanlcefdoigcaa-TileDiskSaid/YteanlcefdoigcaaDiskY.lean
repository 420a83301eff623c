/- The program's disk: begin 106, Sync 70, Clear 72, Arm 74. -/
import Derived.Test.YteanlcefdoigcaaDiskX
namespace Go.Proofs.Yteanlcefdoigcaa
open Go.RowKit

/-- an operation is counted: what is left -/
def spL (lf : Int) : Int := if 0 < lf then lf - 1 else lf
theorem xbegin_ref (g B : Nat) (dn : Bool) (lf i : Int) (f0 f1 : Fl) (w : World) (h : DX w B g dn lf f0 f1) (hr : refV i dn ≠ 0) :
    Calls Try.prog 106 #[.pointer (some ⟨g, 0, none⟩), .int .i64 i] w fun r w' => r = .returned (.tuple #[.pointer none, .int .i64 (refV i dn)]) ∧ Below w.heap.size w w' := by
  have H := hid h
  clear h
  generalize hv : refV i dn = e at *
  have HC := hid (fun W (h : DX W B g dn lf f0 f1) => show Calls Try.prog 109 #[.pointer (some ⟨g, 0, none⟩), .int .i64 i] W fun r w' => r = .returned (.int .i64 e) ∧ Below W.heap.size W w' from hv ▸ xrefused_any g B dn lf i f0 f1 W h)
  clear hv
  have d1 : (e != 0) = true := by simpa using hr
  go_enter Try.func106, Try.ntmps106
  go_wp2_with fail
  refine (HC.out _ H.out).mono ?_
  rintro r w1 ⟨rfl, hb⟩
  go_wp2_with fail
  go_ret2
  exact ⟨rfl, hb⟩
set_option maxRecDepth 100000 in
theorem xbegin_any (g B : Nat) (lf i : Int) (o : Nat) (f0 f1 : Fl) (w : World) (h : DX w B g false lf f0 f1) (h0 : 0 ≤ lf) (hl : lf ≤ 9223372036854775807) (hio : (i = 0 ∧ o = 3) ∨ (i = 1 ∧ o = 5)) :
    Calls Try.prog 106 #[.pointer (some ⟨g, 0, none⟩), .int .i64 i] w fun r w' => r = .returned (.tuple #[if lf = 1 then .pointer none else .pointer (some ⟨g, o, none⟩), .int .i64 (if lf = 1 then 82 else 0)]) ∧ DX w' B g (decide (lf = 1)) (spL lf) f0 f1 ∧ Fr (fun k => k = g) w w' := by
  have HC := hid (xrefused_any g B false lf i f0 f1 w h)
  have HS := hid (fun W (hb : Below w.heap.size w W) => xspend_any g B lf f0 f1 W (h.still hb) h0 hl)
  have hv : refV i false = 0 := by unfold refV; rw [if_neg (by omega)]; rfl
  rw [hv] at HC
  clear hv h
  by_cases h1 : lf = 1
  · rw [if_pos h1, if_pos h1]
    have HD := hid (show decide (lf = 1) = true from decide_eq_true h1)
    rcases hio with ⟨rfl, rfl⟩ | ⟨rfl, rfl⟩
    all_goals
      clear h1
      go_enter Try.func106, Try.ntmps106
      go_wp2_with fail
      refine HC.out.mono ?_
      rintro r w1 ⟨rfl, hb⟩
      go_wp2_with fail
      refine (HS.out _ hb).mono ?_
      rintro r w2 ⟨rfl, hd, hf⟩
      rw [HD.out]
      have HDX := hid hd
      have HF := hid (show Fr (fun k => k = g) w w2 from (Fr.of_below hb).trans (G := fun k => k = g) hf (fun _ _ h => h))
      clear hd hf hb
      go_wp2_with fail
      go_ret2
      exact ⟨rfl, HDX.out, HF.out⟩
  · rw [if_neg h1, if_neg h1]
    have HD := hid (show decide (lf = 1) = false from decide_eq_false h1)
    rcases hio with ⟨rfl, rfl⟩ | ⟨rfl, rfl⟩
    all_goals
      clear h1
      go_enter Try.func106, Try.ntmps106
      go_wp2_with fail
      refine HC.out.mono ?_
      rintro r w1 ⟨rfl, hb⟩
      go_wp2_with fail
      refine (HS.out _ hb).mono ?_
      rintro r w2 ⟨rfl, hd, hf⟩
      rw [HD.out]
      have HDX := hid hd
      have HF := hid (show Fr (fun k => k = g) w w2 from (Fr.of_below hb).trans (G := fun k => k = g) hf (fun _ _ h => h))
      clear hd hf hb
      go_wp2_with fail
      go_ret2
      exact ⟨rfl, HDX.out, HF.out⟩
end Go.Proofs.Yteanlcefdoigcaa
