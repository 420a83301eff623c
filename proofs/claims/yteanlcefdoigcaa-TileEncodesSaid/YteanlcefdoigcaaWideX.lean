/- Whether tiles are too many for a statement (40). (A copy out of DetLaw, for claims that do not reach that text: never import both.) -/
import Derived.Test.YteanlcefdoigcaaTileX
namespace Go.Proofs.Yteanlcefdoigcaa
open Go.RowKit

/-- too wide for the statement -/
def WideL (E : List Te) : Prop := 30 < E.length ∨ ∃ e ∈ E, 40 < e.pts.length
instance (E : List Te) : Decidable (WideL E) := by unfold WideL; exact inferInstance
set_option maxRecDepth 100000 in
set_option maxHeartbeats 1600000 in
theorem wide_any (va : Value) (E : List Te) (w : World) (ha : TilesV w va E) :
    Calls Try.prog 40 #[va] w fun r w' => r = .returned (.bool (decide (WideL E))) ∧ Below w.heap.size w w' := by
  obtain ⟨z, hz⟩ : ∃ z, z = decide (WideL E) := ⟨_, rfl⟩
  rw [← hz]
  have HYES := hid (fun h : WideL E => show z = true by rw [hz]; exact decide_eq_true h)
  have HNO := hid (fun h : ¬ WideL E => show z = false by rw [hz]; exact decide_eq_false h)
  clear hz
  obtain ⟨⟨a, cap, rfl, hrow⟩, hpv⟩ := ha
  obtain ⟨n, hn⟩ : ∃ n, n = E.length := ⟨_, rfl⟩
  rw [← hn]
  have HN := hid hn
  have HROW := hid hrow
  have HPV := hid hpv
  clear hn hrow hpv
  by_cases h30 : 30 < n
  · have d1 : decide ((30 : Int) < (n : Int)) = true := decide_eq_true (by omega)
    have HF := hid (HYES.out (Or.inl (by rw [← HN.out]; exact h30)))
    go_enter Try.func40, Try.ntmps40
    go_wp2_with fail
    go_ret
    exact ⟨by rw [HF.out]; rfl, by (repeat' (first | (with_reducible exact Below.refl _ _) | (with_reducible assumption) | (with_reducible refine Below.alloc ?_ ?_ _) | (with_reducible refine Below.drew ?_) | (with_reducible refine below_drewN ?_ _) | (with_reducible refine Below.setCell ?_ ?_ _) | (with_reducible refine below_setRow ?_ ?_ _) | go_size))⟩
  have d1 : decide ((30 : Int) < (n : Int)) = false := decide_eq_false (by omega)
  go_enter Try.func40, Try.ntmps40
  go_wp2_with fail
  go_loopw [10] (fun iv W => ∃ i : Nat, i ≤ n ∧ iv = .int .i64 (i : Int) ∧ (∀ e ∈ E.take i, ¬ 40 < e.pts.length) ∧ Below w.heap.size w W) (fun iv _ => n - (intOf iv).toNat)
  case atStart => exact ⟨0, by omega, rfl, fun e he => by simp at he, Below.refl _ _⟩
  case round =>
    obtain ⟨i, hi, rfl, hall, hB⟩ := hrel
    have HALL := hid hall
    have HB4 := hid hB
    have hz4 := hB.size
    clear hall hB
    by_cases hlt : i < n
    · have d2 : decide ((i : Int) < (n : Int)) = true := decide_eq_true (by omega)
      obtain ⟨e, he⟩ : ∃ e, E[i]? = some e := ⟨_, List.getElem?_eq_getElem (by rw [← HN.out]; exact hlt)⟩
      have HEI := hid he
      obtain ⟨b, off, rfl, hbw, hrows⟩ := HROW.out.resolve_left (fun h => by rw [h] at he; simp at he)
      have hpe := HPV.out e (List.mem_of_getElem? he)
      have hcs : ∀ y, y < 5 → wr.cell? ⟨b, off + i * 5 + y, none⟩ = e.row[y]? := fun y hy => by
        rw [HB4.out.cell hbw, hrows i e.row (by rw [List.getElem?_map, he]; rfl) y hy]
      clear he hrows hbw
      obtain ⟨⟨k0, k1, k2, k3⟩, ev, P⟩ := e
      obtain ⟨ea, ec, hev, _⟩ := hpe
      obtain rfl : ev = .slice ea P.length ec := hev
      obtain ⟨m, hm⟩ : ∃ m, m = P.length := ⟨_, rfl⟩
      simp only [Te.row, Ky.row, ← hm] at hcs
      have HMP := hid hm
      clear hm
      have a0 : wr.cell? ⟨b, off + i * 5, none⟩ = some (.int .i64 k0) := hcs 0 (by decide)
      have a1 : wr.cell? ⟨b, off + i * 5 + 1, none⟩ = some (.int .i64 k1) := hcs 1 (by decide)
      have a2 : wr.cell? ⟨b, off + i * 5 + 2, none⟩ = some (.int .i64 k2) := hcs 2 (by decide)
      have a3 : wr.cell? ⟨b, off + i * 5 + 3, none⟩ = some (.int .i64 k3) := hcs 3 (by decide)
      have a4 : wr.cell? ⟨b, off + i * 5 + 4, none⟩ = some (.slice ea m ec) := hcs 4 (by decide)
      clear hcs
      go_upto_region 6 with fail
      refine gen_world (fun W5 hW5 => ?_)
      have HT5 := hid (show W5.heap[wr.heap.size]? = some (.cells #[.int .i64 k0, .int .i64 k1, .int .i64 k2, .int .i64 k3, .slice ea m ec] 49) by rw [hW5]; exact heap_alloc_at _ _ _ rfl)
      have HBX := hid (show Below w.heap.size w W5 by rw [hW5]; exact HB4.out.alloc hz4 _)
      clear hW5 a0 a1 a2 a3 a4
      obtain ⟨g, hg⟩ : ∃ g, g = wr.heap.size := ⟨_, rfl⟩
      rw [← hg] at HT5 ⊢
      clear hg
      have t4 : W5.cell? ⟨g, 4, none⟩ = some (.slice ea m ec) := (cell_row (j := 4) HT5.out).trans rfl
      by_cases h40 : 40 < m
      · have d3 : decide ((40 : Int) < (m : Int)) = true := decide_eq_true (by omega)
        have HF := hid (HYES.out (Or.inr ⟨_, List.mem_of_getElem? HEI.out, by show 40 < P.length; rw [← HMP.out]; exact h40⟩))
        go_wp2_with fail
        go_ret
        exact ⟨by rw [HF.out]; rfl, HBX.out⟩
      · have d3 : decide ((40 : Int) < (m : Int)) = false := decide_eq_false (by omega)
        have HNX := hid (show ∀ e ∈ E.take (i + 1), ¬ 40 < e.pts.length by
          rw [take_next HEI.out]
          intro u hu
          rcases List.mem_append.1 hu with g1 | g1
          · exact HALL.out u g1
          · obtain rfl := List.mem_singleton.1 g1
            show ¬ 40 < P.length
            rw [← HMP.out]
            exact h40)
        go_wp2_with fail
        exact ⟨⟨i + 1, by omega, by go_num, HNX.out, HBX.out⟩, by simp [intOf]; omega⟩
    · obtain rfl : i = n := by omega
      have d2 : decide ((i : Int) < (i : Int)) = false := by simp
      have HF := hid (HNO.out (fun h => by
        rcases h with h | ⟨e, he, h⟩
        · rw [← HN.out] at h; exact h30 h
        · exact HALL.out e (by rw [HN.out, List.take_length]; exact he) h))
      go_wp2_with fail
      go_ret
      exact ⟨by rw [HF.out]; rfl, HB4.out⟩
end Go.Proofs.Yteanlcefdoigcaa
