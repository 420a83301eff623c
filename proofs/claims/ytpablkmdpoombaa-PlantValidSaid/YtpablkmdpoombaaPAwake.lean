/- The plant's awake: a delivery of one point comes back. -/
import Derived.Test.YtpablkmdpoombaaRShip
namespace Go.Proofs.Ytpablkmdpoombaa
open Go.RowKit Go.Sort

def p7 : Pt := ⟨7, 1, 0, 2, 3, 0, 1, 1, 2⟩
theorem p7_good : goodL [p7] = true := by kernel_rfl
theorem perm_one {α : Type} {L : List α} {p : α} (h : L.Perm [p]) : L = [p] := List.perm_singleton.1 h
set_option maxRecDepth 100000 in
set_option maxHeartbeats 3200000 in
theorem pawake_any (w : World) : Calls Try.prog 9 #[] w fun r w' => r = .returned (.bool true) ∧ Below w.heap.size w w' := by
  have HW1 := hid (show Below w.heap.size w ((w.alloc (.cells #[.int .i64 7, .int .i64 1, .int .i64 0, .int .i64 2, .int .i64 3, .int .i64 0, .int .i64 1, .int .i64 1, .int .i64 2] 78)).alloc (.cells #[.int .i64 7, .int .i64 1, .int .i64 0, .int .i64 2, .int .i64 3, .int .i64 0, .int .i64 1, .int .i64 1, .int .i64 2] 78)) from (Below.alloc (Below.refl _ _) (Nat.le_refl _) _).alloc (by simp) _)
  have HF1 := hid (show ((w.alloc (.cells #[.int .i64 7, .int .i64 1, .int .i64 0, .int .i64 2, .int .i64 3, .int .i64 0, .int .i64 1, .int .i64 1, .int .i64 2] 78)).alloc (.cells #[.int .i64 7, .int .i64 1, .int .i64 0, .int .i64 2, .int .i64 3, .int .i64 0, .int .i64 1, .int .i64 1, .int .i64 2] 78)).heap[w.heap.size]? = some (.cells #[.int .i64 7, .int .i64 1, .int .i64 0, .int .i64 2, .int .i64 3, .int .i64 0, .int .i64 1, .int .i64 1, .int .i64 2] 78) from heap_alloc_past _ _ _ _ (heap_alloc_at _ _ _ rfl))
  have HP1 := hid (show PtsV ((w.alloc (.cells #[.int .i64 7, .int .i64 1, .int .i64 0, .int .i64 2, .int .i64 3, .int .i64 0, .int .i64 1, .int .i64 1, .int .i64 2] 78)).alloc (.cells #[.int .i64 7, .int .i64 1, .int .i64 0, .int .i64 2, .int .i64 3, .int .i64 0, .int .i64 1, .int .i64 1, .int .i64 2] 78)) (.slice (some ⟨w.heap.size + 1, 0, none⟩) 1 1) [p7] from
    ⟨some ⟨w.heap.size + 1, 0, none⟩, 1, rfl, Or.inr ⟨_, 0, rfl, by simp, RowsAt.one (heap_alloc_at _ _ _ (by simp))⟩⟩)
  go_enter Try.func9, Try.ntmps9
  go_wp2_with fail
  generalize (w.alloc (.cells #[.int .i64 7, .int .i64 1, .int .i64 0, .int .i64 2, .int .i64 3, .int .i64 0, .int .i64 1, .int .i64 1, .int .i64 2] 78)).alloc (.cells #[.int .i64 7, .int .i64 1, .int .i64 0, .int .i64 2, .int .i64 3, .int .i64 0, .int .i64 1, .int .i64 1, .int .i64 2] 78) = W1 at *
  have hz1 := HW1.out.size
  refine (xShip_any _ [p7] _ HP1.out (by simp [maxLen])).mono ?_
  rintro r w2 ⟨hres, hb2⟩
  rcases hres with ⟨_, v2, L, rfl, hperm, _, ho2⟩ | ⟨hg, _⟩
  rotate_left
  · rw [p7_good] at hg; exact Bool.noConfusion hg
  obtain rfl := perm_one hperm
  have hlong := encD_long [p7]
  have hlb := encDB_len p7_good (List.pairwise_singleton _ _)
  have hlen : (encD [p7]).length = (encDB [p7]).length + 4 := by simp [encD, bytes4]
  have HB2 := hid (HW1.out.trans (hb2.mono hz1))
  have HF2 := hid (heap_still hb2 HF1.out)
  have hz2 := HB2.out.size
  obtain ⟨g9, cap9, rfl, hc9, hm9, hby9, hg9, hgz9⟩ := ownB_at ho2 (by omega)
  have HRC := hid (xReceive_long g9 0 (encDB [p7]).length cap9 (encD [p7]) w2 hgz9 (encD_byte _) hlen (by omega) (by omega) hm9 hby9)
  have HOK := hid ((okY_iff (encD_byte [p7]) hlen).2 ⟨p7_good, List.pairwise_singleton _ _, rfl⟩)
  rw [hlen] at hlong ⊢
  generalize (encDB [p7]).length = n at *
  generalize encD [p7] = ET at *
  clear hb2 hperm ho2 hby9 hlb hlen
  have d4 : decide ((4 : Int) < ((n : Int) + 4)) = true := decide_eq_true (by omega)
  have hn0 : 0 < n := by omega
  go_wp2_with fail
  refine HRC.out.mono ?_
  rintro r w3 ⟨⟨_, hgot⟩ | ⟨hno, _⟩, hb3⟩
  rotate_left
  · exact absurd HOK.out.1 hno
  rw [HOK.out.2] at hgot
  obtain ⟨v3, rfl, a3, c3, rfl, h3⟩ := hgot
  obtain ⟨b3, o3, rfl, hbw3, hrows⟩ := h3.resolve_left (by simp)
  have HB3 := hid (HB2.out.trans (hb3.mono hz2))
  have HF3 := hid (heap_still hb3 HF2.out)
  have hz3 := HB3.out.size
  have hcs : ∀ j, j < 9 → w3.cell? ⟨b3, o3 + 0 * 9 + j, none⟩ = some (.int .i64 (p7.f j)) := fun j hj => by
    rw [hrows 0 p7.row rfl j hj, Pt.row_at p7 j hj]
  simp only [Nat.zero_mul, Nat.add_zero] at hcs
  have a0 := fun d os => cell_regrown (show w3.cell? ⟨b3, o3, none⟩ = some (.int .i64 7) from hcs 0 (by decide)) d os
  have a1 := fun d os => cell_regrown (show w3.cell? ⟨b3, o3 + 1, none⟩ = some (.int .i64 1) from hcs 1 (by decide)) d os
  have a2 := fun d os => cell_regrown (show w3.cell? ⟨b3, o3 + 2, none⟩ = some (.int .i64 0) from hcs 2 (by decide)) d os
  have a3 := fun d os => cell_regrown (show w3.cell? ⟨b3, o3 + 3, none⟩ = some (.int .i64 2) from hcs 3 (by decide)) d os
  have a4 := fun d os => cell_regrown (show w3.cell? ⟨b3, o3 + 4, none⟩ = some (.int .i64 3) from hcs 4 (by decide)) d os
  have a5 := fun d os => cell_regrown (show w3.cell? ⟨b3, o3 + 5, none⟩ = some (.int .i64 0) from hcs 5 (by decide)) d os
  have a6 := fun d os => cell_regrown (show w3.cell? ⟨b3, o3 + 6, none⟩ = some (.int .i64 1) from hcs 6 (by decide)) d os
  have a7 := fun d os => cell_regrown (show w3.cell? ⟨b3, o3 + 7, none⟩ = some (.int .i64 1) from hcs 7 (by decide)) d os
  have a8 := fun d os => cell_regrown (show w3.cell? ⟨b3, o3 + 8, none⟩ = some (.int .i64 2) from hcs 8 (by decide)) d os
  have b0 := fun d os => cell_regrown (show w3.cell? ⟨w.heap.size, 0, none⟩ = some (.int .i64 7) from (cell_row (j := 0) HF3.out).trans rfl) d os
  have b1 := fun d os => cell_regrown (show w3.cell? ⟨w.heap.size, 1, none⟩ = some (.int .i64 1) from (cell_row (j := 1) HF3.out).trans rfl) d os
  have b2 := fun d os => cell_regrown (show w3.cell? ⟨w.heap.size, 2, none⟩ = some (.int .i64 0) from (cell_row (j := 2) HF3.out).trans rfl) d os
  have b3' := fun d os => cell_regrown (show w3.cell? ⟨w.heap.size, 3, none⟩ = some (.int .i64 2) from (cell_row (j := 3) HF3.out).trans rfl) d os
  have b4 := fun d os => cell_regrown (show w3.cell? ⟨w.heap.size, 4, none⟩ = some (.int .i64 3) from (cell_row (j := 4) HF3.out).trans rfl) d os
  have b5 := fun d os => cell_regrown (show w3.cell? ⟨w.heap.size, 5, none⟩ = some (.int .i64 0) from (cell_row (j := 5) HF3.out).trans rfl) d os
  have b6 := fun d os => cell_regrown (show w3.cell? ⟨w.heap.size, 6, none⟩ = some (.int .i64 1) from (cell_row (j := 6) HF3.out).trans rfl) d os
  have b7 := fun d os => cell_regrown (show w3.cell? ⟨w.heap.size, 7, none⟩ = some (.int .i64 1) from (cell_row (j := 7) HF3.out).trans rfl) d os
  have b8 := fun d os => cell_regrown (show w3.cell? ⟨w.heap.size, 8, none⟩ = some (.int .i64 2) from (cell_row (j := 8) HF3.out).trans rfl) d os
  have heq := eq36s 7 1 0 2 3 0 1 1 2
  clear hb3 hrows hcs h3
  go_wp2_with fail
  refine wp_region_quiet_below (by kernel_rfl) (by kernel_rfl) ?_
  repeat (first | go_big_quiet_step (fail) | quiet_step (fail))
  refine wpQuiet_nil ?_
  intro _ hw'
  obtain ⟨⟨dqV, osV⟩, hw2⟩ := hw'
  subst hw2
  have HQV := hid (below_regrown w3 dqV osV)
  generalize Sort.grow (redrawn w3 dqV) osV = V at HQV ⊢
  have hsV := HQV.out.size
  clear a0 a1 a2 a3 a4 a5 a6 a7 a8 b0 b1 b2 b3' b4 b5 b6 b7 b8
  go_wp2_with fail
  go_ret
  exact ⟨rfl, HB3.out.trans (HQV.out.mono hz3)⟩
end Go.Proofs.Ytpablkmdpoombaa
