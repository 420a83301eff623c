/- Texts of the seat Yteanlcefdoigcaa, turned to this one by wip/port.py: RTls. -/
import Derived.Test.YtcclpdfmmdonpaaGreatRows
import Derived.Test.YtcclpdfmmdonpaaGreatXBas
import Derived.Test.YtcclpdfmmdonpaaGreatXMap
import Derived.Test.YtcclpdfmmdonpaaGreatXVal
import Derived.Test.YtcclpdfmmdonpaaGreatXSrt
import Derived.Test.YtcclpdfmmdonpaaGreatXLay
import Derived.Test.YtcclpdfmmdonpaaGreatXRst
import Derived.Test.YtcclpdfmmdonpaaGreatXRla
import Derived.Test.YtcclpdfmmdonpaaGreatXTil
namespace Go.Proofs.YtcclpdfmmdonpaaGreat
open Go.ChangeShapes Go.WideShapes Go.RowKit Go.Maps Go.Sort
def idxL (P : List Pt) (id : Int) : Int := match P.findIdx? (fun p => p.id == id) with | some i => (i : Int) | none => -1
theorem idxL_hit {P : List Pt} {id : Int} {i : Nat} {p : Pt} (hp : P[i]? = some p) (he : p.id = id) (hn : ∀ q ∈ P.take i, q.id ≠ id) : idxL P id = i := by
  obtain ⟨hi, rfl⟩ := List.getElem?_eq_some_iff.1 hp; have : P.findIdx? (fun p => p.id == id) = some i := by
    rw [List.findIdx?_eq_some_iff_getElem]; refine ⟨hi, beq_iff_eq.2 he, fun j hj => ?_⟩; rw [Bool.not_eq_true, beq_eq_false_iff_ne]; exact hn _ (by rw [List.mem_iff_getElem?]; exact ⟨j, by rw [List.getElem?_take_of_lt hj]; exact List.getElem?_eq_getElem (by omega)⟩)
  unfold idxL; rw [this]
theorem idxL_none {P : List Pt} {id : Int} (hn : ∀ q ∈ P, q.id ≠ id) : idxL P id = -1 := by
  have : P.findIdx? (fun p => p.id == id) = none := by
    rw [List.findIdx?_eq_none_iff]; exact fun x hx => beq_eq_false_iff_ne.2 (hn x hx)
  unfold idxL; rw [this]
theorem idxL_neg {P : List Pt} {id : Int} : idxL P id < 0 ↔ ∀ q ∈ P, q.id ≠ id := by
  constructor
  · intro h q hq e; unfold idxL at h
    cases hf : P.findIdx? (fun p => p.id == id) with
    | some i => rw [hf] at h; simp at h; omega
    | none =>
      rw [List.findIdx?_eq_none_iff] at hf; exact absurd e (by have := hf q hq; simpa using this)
  · intro h; rw [idxL_none h]; decide
set_option maxRecDepth 100000 in
set_option maxHeartbeats 1600000 in
theorem rindex_any (v : Value) (P : List Pt) (id : Int) (w : World) (hP : PtsV w v P) (hn : P.length <= maxLen) :
    Calls Tryz.prog 87 #[v, .int .i64 id] w fun r w' => r = .returned (.int .i64 (idxL P id)) /\ Below w.heap.size w w' := by
  obtain ⟨z, hz⟩ : ∃ z, z = idxL P id := ⟨_, rfl⟩; rw [<- hz]; have HZ := hid hz; obtain ⟨a, cap, rfl, hpd⟩ := hP; obtain ⟨n, hnl⟩ : ∃ n, n = P.length := ⟨_, rfl⟩; rw [<- hnl] at hn ⊢; have hn63 : n <= 9223372036854775807 := by unfold maxLen at hn; omega
  have HN := hid hnl; have HPD := hid hpd; clear hz hn hnl hpd; go_enter Tryz.func87, Tryz.ntmps87; go_wp2_with fail
  go_loopw [8] (fun iv W => ∃ i : Nat, i <= n /\ iv = .int .i64 (i : Int) /\ (∀ q ∈ P.take i, q.id ≠ id) /\ Below w.heap.size w W) (fun iv _ => n - (intOf iv).toNat)
  case atStart => exact ⟨0, by omega, rfl, fun q hq => by simp at hq, Below.refl _ _⟩
  case round =>
    obtain ⟨i, hi, rfl, hne, hB⟩ := hrel; have HNE := hid hne; have HB := hid hB; clear hne hB; by_cases hlt : i < n
    · have d1 : decide ((i : Int) < (n : Int)) = true := decide_eq_true (by omega); obtain ⟨p, hp⟩ : ∃ p, P[i]? = some p := ⟨_, List.getElem?_eq_getElem (by rw [<- HN.out]; exact hlt)⟩; have hPn : P ≠ [] := fun h => by rw [h] at hp; simp at hp
      obtain ⟨b, off, rfl, hbw, hrows⟩ := HPD.out.resolve_left hPn; have c0 : wr.cell? ⟨b, off + i * 9, none⟩ = some (.int .i64 p.id) := by
        rw [HB.out.cell (p := ⟨b, off + i * 9, none⟩) hbw]; exact (hrows i p.row (by rw [List.getElem?_map, hp]; rfl) 0 (by decide)).trans rfl
      have HPI := hid hp; clear hp hPn hbw hrows; by_cases he : p.id = id
      · have HF := hid (show z = (i : Int) by rw [HZ.out]; exact idxL_hit HPI.out he HNE.out); have db : (p.id == id) = true := beq_iff_eq.2 he; clear he; go_wp2_with fail; go_ret; exact ⟨by rw [HF.out]; rfl, HB.out⟩
      · have db : (p.id == id) = false := beq_eq_false_iff_ne.2 he; have HT := hid (take_next HPI.out); have HX := hid he; clear he; go_wp2_with fail; refine ⟨⟨i + 1, by omega, by go_num, ?_, HB.out⟩, by simp [intOf]; omega⟩; rw [HT.out]; intro q hq
        rcases List.mem_append.1 hq with g | g
        · exact HNE.out q g
        · obtain rfl := List.mem_singleton.1 g; exact HX.out
    · obtain rfl : i = n := by omega
      have d1 : decide ((i : Int) < (i : Int)) = false := by simp
      have HF := hid (show z = -1 by rw [HZ.out]; exact idxL_none (by have := HNE.out; rwa [HN.out, List.take_length] at this)); go_wp2_with fail; go_ret; exact ⟨by rw [HF.out]; rfl, HB.out⟩
end Go.Proofs.YtcclpdfmmdonpaaGreat
