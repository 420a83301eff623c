/- Closed facts of the program, for the rows. (Printed by wip/gen_jf.py.) -/
import Derived.Test.YtpfighhhemnhaaaGreatLaid
import Derived.Test.YtpfighhhemnhaaaGreatJfM
import Derived.Test.YtpfighhhemnhaaaGreatJfS
import Derived.Test.YtpfighhhemnhaaaGreatJfI3
import Derived.Test.YtpfighhhemnhaaaGreatJfU3
import Derived.Test.YtpfighhhemnhaaaGreatJfR3
import Derived.Test.YtpfighhhemnhaaaGreatJfN3
import Derived.Test.YtpfighhhemnhaaaGreatJfI4
import Derived.Test.YtpfighhhemnhaaaGreatJfU4
import Derived.Test.YtpfighhhemnhaaaGreatJfR4
import Derived.Test.YtpfighhhemnhaaaGreatJfN4
namespace Go.Proofs.YtpfighhhemnhaaaGreat
open Go.RowKit

theorem jf_wf3 : (Rows.plantLongRow.wf (OpenSpec.ofChange Rows.plantLongSpec)) = true := by kernel_rfl
theorem jf_read3 : (Tryz.f3.params.all (Tryz.prog.readableRec ·)) = true := by kernel_rfl
theorem jf_named3 : (namedTie Tryz.prog Rows.plantLongRow.named Rows.plantLongSpec.vars) = true := by kernel_rfl
theorem jf_st13 : (Rows.plantLongRow.stops == []) = true := by kernel_rfl
theorem jf_kn3 : (Rows.plantLongRow.knobs == []) = true := by kernel_rfl
theorem jf_mp3 : (Rows.plantLongRow.maps == (Tryz.f3.params.toList ++ Rows.plantLongSpec.plain.varTypes Tryz.prog).any (Tryz.prog.mapsRec ·)) = true := by kernel_rfl
theorem jf_ifc3 : (Rows.plantLongRow.ifaces == (Tryz.f3.params.toList ++ Rows.plantLongSpec.plain.varTypes Tryz.prog).any (Tryz.prog.ifacesRec ·)) = true := by kernel_rfl
theorem jf_mo3 : (Rows.plantLongRow.mapsOut == Tryz.prog.mapsAmong Tryz.f3.resultTypes.toList) = true := by kernel_rfl
theorem jf_lp3 : (Rows.plantLongRow.loops == (Tryz.f3.params.toList ++ Rows.plantLongSpec.plain.varTypes Tryz.prog).any (Tryz.prog.loopsFrom ·)) = true := by kernel_rfl
theorem jf_wk3 : (Rows.plantLongRow.wideKeys == (Tryz.f3.params.toList ++ Rows.plantLongSpec.plain.varTypes Tryz.prog ++ Tryz.f3.resultTypes.toList).any (Tryz.prog.wideKeysFrom ·)) = true := by kernel_rfl
theorem jf_vr3 : (Rows.plantLongSpec.vars.all (Tryz.prog.varReadable ·)) = true := by kernel_rfl
theorem jf_rt3 : (Tryz.f3.resultTypes.all (fun t => Tryz.prog.readableRec t && decide (t < Tryz.prog.types.size))) = true := by kernel_rfl
theorem jf_io3 : (Rows.plantLongRow.ifacesOut == Tryz.f3.resultTypes.toList.any (Tryz.prog.ifacesRec ·)) = true := by kernel_rfl
theorem jf_lo3 : (Rows.plantLongRow.loopsOut == Tryz.f3.resultTypes.toList.any (Tryz.prog.loopsFrom ·)) = true := by kernel_rfl
theorem jf_pk3 : (Rows.plantLongRow.plainKeys == Tryz.prog.plainKeys) = true := by kernel_rfl
theorem jf_sh3 : (Rows.plantLongRow.shortTexts.isNone) = true := by kernel_rfl
theorem jf_lf3 : (Rows.plantLongRow.lifted == Tryz.prog.liftsFinal) = true := by kernel_rfl
theorem jf_mk3 : (Tryz.prog.make == some Rows.plantLongRow.make) = true := by kernel_rfl
theorem jf_kd3 : (Rows.plantLongRow.kinds == (if Rows.plantLongRow.domain.isEmpty then [] else Tryz.f3.params.toList.map fun t => match Tryz.prog.underlying t with | some (.int k) => some k | _ => none)) = true := by kernel_rfl
theorem jf_pin3 : (Rows.plantLongRow.pinned == Rows.plantLongRow.pinnedBy) = true := by kernel_rfl
theorem jf_ve3 : (Rows.plantLongRow.veiled == (Tryz.f3.params.toList ++ Rows.plantLongSpec.plain.varTypes Tryz.prog ++ Tryz.f3.resultTypes.toList).any (Tryz.prog.veiledRec ·)) = true := by kernel_rfl
theorem jf_vf3 : (Rows.plantLongRow.veiledFits Tryz.prog Tryz.f3.params.toList (Tryz.f3.params.toList ++ Rows.plantLongSpec.plain.varTypes Tryz.prog ++ Tryz.f3.resultTypes.toList)) = true := by kernel_rfl
theorem jf_wf4 : (Rows.plantNilsRow.wf (OpenSpec.ofChange Rows.plantNilsSpec)) = true := by kernel_rfl
theorem jf_read4 : (Tryz.f4.params.all (Tryz.prog.readableRec ·)) = true := by kernel_rfl
theorem jf_named4 : (namedTie Tryz.prog Rows.plantNilsRow.named Rows.plantNilsSpec.vars) = true := by kernel_rfl
theorem jf_st14 : (Rows.plantNilsRow.stops == []) = true := by kernel_rfl
theorem jf_kn4 : (Rows.plantNilsRow.knobs == []) = true := by kernel_rfl
theorem jf_mp4 : (Rows.plantNilsRow.maps == (Tryz.f4.params.toList ++ Rows.plantNilsSpec.plain.varTypes Tryz.prog).any (Tryz.prog.mapsRec ·)) = true := by kernel_rfl
theorem jf_ifc4 : (Rows.plantNilsRow.ifaces == (Tryz.f4.params.toList ++ Rows.plantNilsSpec.plain.varTypes Tryz.prog).any (Tryz.prog.ifacesRec ·)) = true := by kernel_rfl
theorem jf_mo4 : (Rows.plantNilsRow.mapsOut == Tryz.prog.mapsAmong Tryz.f4.resultTypes.toList) = true := by kernel_rfl
theorem jf_lp4 : (Rows.plantNilsRow.loops == (Tryz.f4.params.toList ++ Rows.plantNilsSpec.plain.varTypes Tryz.prog).any (Tryz.prog.loopsFrom ·)) = true := by kernel_rfl
theorem jf_wk4 : (Rows.plantNilsRow.wideKeys == (Tryz.f4.params.toList ++ Rows.plantNilsSpec.plain.varTypes Tryz.prog ++ Tryz.f4.resultTypes.toList).any (Tryz.prog.wideKeysFrom ·)) = true := by kernel_rfl
theorem jf_vr4 : (Rows.plantNilsSpec.vars.all (Tryz.prog.varReadable ·)) = true := by kernel_rfl
theorem jf_rt4 : (Tryz.f4.resultTypes.all (fun t => Tryz.prog.readableRec t && decide (t < Tryz.prog.types.size))) = true := by kernel_rfl
theorem jf_io4 : (Rows.plantNilsRow.ifacesOut == Tryz.f4.resultTypes.toList.any (Tryz.prog.ifacesRec ·)) = true := by kernel_rfl
theorem jf_lo4 : (Rows.plantNilsRow.loopsOut == Tryz.f4.resultTypes.toList.any (Tryz.prog.loopsFrom ·)) = true := by kernel_rfl
theorem jf_pk4 : (Rows.plantNilsRow.plainKeys == Tryz.prog.plainKeys) = true := by kernel_rfl
theorem jf_sh4 : (Rows.plantNilsRow.shortTexts.isNone) = true := by kernel_rfl
theorem jf_lf4 : (Rows.plantNilsRow.lifted == Tryz.prog.liftsFinal) = true := by kernel_rfl
theorem jf_mk4 : (Tryz.prog.make == some Rows.plantNilsRow.make) = true := by kernel_rfl
theorem jf_kd4 : (Rows.plantNilsRow.kinds == (if Rows.plantNilsRow.domain.isEmpty then [] else Tryz.f4.params.toList.map fun t => match Tryz.prog.underlying t with | some (.int k) => some k | _ => none)) = true := by kernel_rfl
theorem jf_pin4 : (Rows.plantNilsRow.pinned == Rows.plantNilsRow.pinnedBy) = true := by kernel_rfl
theorem jf_ve4 : (Rows.plantNilsRow.veiled == (Tryz.f4.params.toList ++ Rows.plantNilsSpec.plain.varTypes Tryz.prog ++ Tryz.f4.resultTypes.toList).any (Tryz.prog.veiledRec ·)) = true := by kernel_rfl
theorem jf_vf4 : (Rows.plantNilsRow.veiledFits Tryz.prog Tryz.f4.params.toList (Tryz.f4.params.toList ++ Rows.plantNilsSpec.plain.varTypes Tryz.prog ++ Tryz.f4.resultTypes.toList)) = true := by kernel_rfl
theorem and_t {a b : Bool} (ha : a = true) (hb : b = true) : (a && b) = true := by rw [ha, hb]; rfl
set_option maxRecDepth 100000 in
/-- the closed facts of plantLong -/
theorem closed3 : joinedFacts Tryz.prog 3 Tryz.f3 Rows.plantLongSpec Rows.plantLongRow = true := by
  unfold joinedFacts
  refine and_t ?_ jf_vf3
  refine and_t ?_ jf_ve3
  refine and_t ?_ jf_pin3
  refine and_t ?_ jf_kd3
  refine and_t ?_ jf_mk3
  refine and_t ?_ jf_lf3
  refine and_t ?_ jf_me
  refine and_t ?_ jf_sth
  refine and_t ?_ jf_sh3
  refine and_t ?_ jf_pk3
  refine and_t ?_ jf_lo3
  refine and_t ?_ jf_io3
  refine and_t ?_ jf_rt3
  refine and_t ?_ jf_vr3
  refine and_t ?_ jf_wk3
  refine and_t ?_ jf_lp3
  refine and_t ?_ jf_mo3
  refine and_t ?_ jf_ifc3
  refine and_t ?_ jf_mp3
  refine and_t ?_ jf_vn3
  refine and_t ?_ jf_rec3
  refine and_t ?_ jf_unf3
  refine and_t ?_ jf_inp3
  refine and_t ?_ jf_sk
  refine and_t ?_ jf_kn3
  refine and_t ?_ jf_st2
  refine and_t ?_ jf_st13
  refine and_t ?_ jf_named3
  refine and_t ?_ jf_read3
  refine and_t ?_ jf_maps
  refine and_t ?_ lawLaid
  exact jf_wf3
set_option maxRecDepth 100000 in
/-- the closed facts of plantNils -/
theorem closed4 : joinedFacts Tryz.prog 4 Tryz.f4 Rows.plantNilsSpec Rows.plantNilsRow = true := by
  unfold joinedFacts
  refine and_t ?_ jf_vf4
  refine and_t ?_ jf_ve4
  refine and_t ?_ jf_pin4
  refine and_t ?_ jf_kd4
  refine and_t ?_ jf_mk4
  refine and_t ?_ jf_lf4
  refine and_t ?_ jf_me
  refine and_t ?_ jf_sth
  refine and_t ?_ jf_sh4
  refine and_t ?_ jf_pk4
  refine and_t ?_ jf_lo4
  refine and_t ?_ jf_io4
  refine and_t ?_ jf_rt4
  refine and_t ?_ jf_vr4
  refine and_t ?_ jf_wk4
  refine and_t ?_ jf_lp4
  refine and_t ?_ jf_mo4
  refine and_t ?_ jf_ifc4
  refine and_t ?_ jf_mp4
  refine and_t ?_ jf_vn4
  refine and_t ?_ jf_rec4
  refine and_t ?_ jf_unf4
  refine and_t ?_ jf_inp4
  refine and_t ?_ jf_sk
  refine and_t ?_ jf_kn4
  refine and_t ?_ jf_st2
  refine and_t ?_ jf_st14
  refine and_t ?_ jf_named4
  refine and_t ?_ jf_read4
  refine and_t ?_ jf_maps
  refine and_t ?_ lawLaid
  exact jf_wf4
end Go.Proofs.YtpfighhhemnhaaaGreat
