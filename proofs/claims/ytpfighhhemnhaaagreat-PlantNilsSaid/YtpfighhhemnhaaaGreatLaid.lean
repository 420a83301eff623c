/- laidOutB of a great program, its types in chunks. (Printed by wip/gen_laid.py YtpfighhhemnhaaaGreat 739.) -/
import Derived.Test.YtpfighhhemnhaaaGreatRows
import Derived.ProofKit
import Derived.Handy
namespace Go.Proofs.YtpfighhhemnhaaaGreat

theorem laid_size : Tryz.prog.types.size = 739 := by kernel_rfl
theorem laid_funcs : Tryz.prog.funcs.all (fun f => f.params.all fun t => decide (t < Tryz.prog.types.size)) = true := by kernel_rfl
theorem laid_globals : Tryz.prog.globals.all (fun g => decide (g.type < Tryz.prog.types.size)) = true := by kernel_rfl
theorem laid_0 : ((List.range 40).all fun j => rowFine Tryz.prog (0 + j)) = true := by kernel_rfl
theorem laid_1 : ((List.range 40).all fun j => rowFine Tryz.prog (40 + j)) = true := by kernel_rfl
theorem laid_2 : ((List.range 40).all fun j => rowFine Tryz.prog (80 + j)) = true := by kernel_rfl
theorem laid_3 : ((List.range 40).all fun j => rowFine Tryz.prog (120 + j)) = true := by kernel_rfl
theorem laid_4 : ((List.range 40).all fun j => rowFine Tryz.prog (160 + j)) = true := by kernel_rfl
theorem laid_5 : ((List.range 40).all fun j => rowFine Tryz.prog (200 + j)) = true := by kernel_rfl
theorem laid_6 : ((List.range 40).all fun j => rowFine Tryz.prog (240 + j)) = true := by kernel_rfl
theorem laid_7 : ((List.range 40).all fun j => rowFine Tryz.prog (280 + j)) = true := by kernel_rfl
theorem laid_8 : ((List.range 40).all fun j => rowFine Tryz.prog (320 + j)) = true := by kernel_rfl
theorem laid_9 : ((List.range 40).all fun j => rowFine Tryz.prog (360 + j)) = true := by kernel_rfl
theorem laid_10 : ((List.range 40).all fun j => rowFine Tryz.prog (400 + j)) = true := by kernel_rfl
theorem laid_11 : ((List.range 40).all fun j => rowFine Tryz.prog (440 + j)) = true := by kernel_rfl
theorem laid_12 : ((List.range 40).all fun j => rowFine Tryz.prog (480 + j)) = true := by kernel_rfl
theorem laid_13 : ((List.range 40).all fun j => rowFine Tryz.prog (520 + j)) = true := by kernel_rfl
theorem laid_14 : ((List.range 40).all fun j => rowFine Tryz.prog (560 + j)) = true := by kernel_rfl
theorem laid_15 : ((List.range 40).all fun j => rowFine Tryz.prog (600 + j)) = true := by kernel_rfl
theorem laid_16 : ((List.range 40).all fun j => rowFine Tryz.prog (640 + j)) = true := by kernel_rfl
theorem laid_17 : ((List.range 40).all fun j => rowFine Tryz.prog (680 + j)) = true := by kernel_rfl
theorem laid_18 : ((List.range 19).all fun j => rowFine Tryz.prog (720 + j)) = true := by kernel_rfl
theorem laid_at {m a t : Nat} (h : ((List.range m).all fun j => rowFine Tryz.prog (a + j)) = true) (h1 : a ≤ t) (h2 : t < a + m) : rowFine Tryz.prog t = true := by
  rw [List.all_eq_true] at h
  have := h (t - a) (List.mem_range.2 (by omega))
  rwa [show a + (t - a) = t by omega] at this
theorem laid_row (t : Nat) (ht : t < 739) : rowFine Tryz.prog t = true := by
  by_cases h0 : t < 40
  · exact laid_at laid_0 (by omega) (by omega)
  by_cases h1 : t < 80
  · exact laid_at laid_1 (by omega) (by omega)
  by_cases h2 : t < 120
  · exact laid_at laid_2 (by omega) (by omega)
  by_cases h3 : t < 160
  · exact laid_at laid_3 (by omega) (by omega)
  by_cases h4 : t < 200
  · exact laid_at laid_4 (by omega) (by omega)
  by_cases h5 : t < 240
  · exact laid_at laid_5 (by omega) (by omega)
  by_cases h6 : t < 280
  · exact laid_at laid_6 (by omega) (by omega)
  by_cases h7 : t < 320
  · exact laid_at laid_7 (by omega) (by omega)
  by_cases h8 : t < 360
  · exact laid_at laid_8 (by omega) (by omega)
  by_cases h9 : t < 400
  · exact laid_at laid_9 (by omega) (by omega)
  by_cases h10 : t < 440
  · exact laid_at laid_10 (by omega) (by omega)
  by_cases h11 : t < 480
  · exact laid_at laid_11 (by omega) (by omega)
  by_cases h12 : t < 520
  · exact laid_at laid_12 (by omega) (by omega)
  by_cases h13 : t < 560
  · exact laid_at laid_13 (by omega) (by omega)
  by_cases h14 : t < 600
  · exact laid_at laid_14 (by omega) (by omega)
  by_cases h15 : t < 640
  · exact laid_at laid_15 (by omega) (by omega)
  by_cases h16 : t < 680
  · exact laid_at laid_16 (by omega) (by omega)
  by_cases h17 : t < 720
  · exact laid_at laid_17 (by omega) (by omega)
  exact laid_at laid_18 (by omega) (by omega)
theorem lawLaid : laidOutB Tryz.prog = true := by
  unfold laidOutB
  rw [laid_globals, laid_funcs, Bool.and_true, Bool.and_true, List.all_eq_true]
  intro t ht
  exact laid_row t (by rw [← laid_size]; exact List.mem_range.1 ht)
end Go.Proofs.YtpfighhhemnhaaaGreat
