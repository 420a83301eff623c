/- The reference's reader of numbers: it is the program's. -/
import Derived.Test.YteanlcefdoigcaaReader
namespace Go.Proofs.Yteanlcefdoigcaa
open Go.RowKit

set_option maxRecDepth 100000 in
theorem next_number (rb b : Nat) (s : St) (w : World) (h : RdAt w rb 123 b s) :
    Calls Try.prog 87 #[.pointer (some ⟨rb, 0, none⟩), .bool false] w fun r w' => r = .returned (.int .i64 (nextS false s).1) ∧ RdAt w' rb 123 b (nextS false s).2 ∧ Only rb w.heap.size w w' := by
  obtain ⟨o, c, hr, hm, hc, hb, hne, hg, hbw⟩ := h
  have HCALL := hid (rRead_any b o s.m c s.g w (by omega) hg hb)
  have HCALLS := hid (rSigned_any b o s.m c s.g w (by omega) hg hb)
  have HRD := hid hr
  have hc0 : w.cell? ⟨rb, 0, none⟩ = some (.slice (some ⟨b, o, none⟩) s.m c) := by simp [World.cell?, hr]
  have hf0 : w.frozen? ⟨rb, 0, none⟩ = false := by simp [World.frozen?, hr]
  have hf1 : w.frozen? ⟨rb, 1, none⟩ = false := by simp [World.frozen?, hr]
  have HI0 := hid (int3_eq (readV s.g s.m))
  by_cases hgd : (readV s.g s.m).2.2 = 0 ∧ s.bad = false
  · obtain ⟨he, hbd⟩ := hgd
    have hc1 : w.cell? ⟨rb, 1, none⟩ = some (.bool false) := by simp [World.cell?, hr, hbd]
    have HBD := hid hbd
    have hsz := readV_size s.g s.m he
    obtain ⟨k, hk⟩ : ∃ k : Nat, (readV s.g s.m).2.1 = k := ⟨(readV s.g s.m).2.1.toNat, by omega⟩
    have hkm : k ≤ s.m := by omega
    have HN := hid (nextS_good (sg := false) he hbd hk)
    have HI := hid (show int3 (readV s.g s.m) = .tuple #[.int .i64 ((readV s.g s.m)).1, .int .i64 k, .int .i64 0] by first | (rw [int3_eq, (signV_size _).1, (signV_size _).2 he, he, hk]) | (rw [int3_eq, he, hk]))
    have HB := hid hb
    have HG := hid hg
    clear hb hg he hk hsz hr hbd
    by_cases hck : k < c
    · go_enter Try.func87, Try.ntmps87
      go_wp2_with fail
      refine HCALL.out.mono ?_
      rintro r w1 ⟨rfl, rfl⟩
      rw [HI.out]
      go_wp2_with fail
      all_goals first | (exfalso; omega) | skip
      go_ret
      rw [HN.out]
      have hol := only_setCell (j := 0) (Only.refl rb w.heap.size w) (.slice (some ⟨b, o + k, none⟩) (s.m - k) (c - k))
      exact ⟨rfl, rd_after hol hm hc HB.out hne HG.out hbw hkm (Or.inl rfl) (heap_setCell HRD.out _), hol⟩
    · have hcm : c = s.m := by omega
      have hkm2 : k = s.m := by omega
      subst hcm hkm2
      clear hck
      go_enter Try.func87, Try.ntmps87
      go_wp2_with fail
      refine HCALL.out.mono ?_
      rintro r w1 ⟨rfl, rfl⟩
      rw [HI.out]
      go_wp2_with fail
      go_ret
      rw [HN.out]
      have hol := only_setCell (j := 0) (Only.refl rb w.heap.size w) (.slice (some ⟨b, o, none⟩) 0 0)
      exact ⟨rfl, rd_after hol hm hc HB.out hne HG.out hbw hkm (Or.inr (Nat.sub_self _)) (by rw [Nat.sub_self]; exact heap_setCell HRD.out _), hol⟩
  · have HN := hid (nextS_bad (sg := false) hgd)
    have HI := hid (show int3 (readV s.g s.m) = .tuple #[.int .i64 ((readV s.g s.m)).1, .int .i64 ((readV s.g s.m)).2.1, .int .i64 ((readV s.g s.m)).2.2] from rfl)
    have HB := hid hb
    have HG := hid hg
    cases hsb : s.bad
    · have hse : ((readV s.g s.m)).2.2 ≠ 0 := fun h => hgd ⟨by first | exact h | (rw [(signV_size _).1] at h; exact h), hsb⟩
      have hc1 : w.cell? ⟨rb, 1, none⟩ = some (.bool false) := by simp [World.cell?, hr, hsb]
      clear hb hg hgd hr hsb
      go_enter Try.func87, Try.ntmps87
      go_wp2_with fail
      refine HCALL.out.mono ?_
      rintro r w1 ⟨rfl, rfl⟩
      rw [HI.out]
      go_wp2_with fail
      go_ret
      rw [HN.out]
      have hol := only_setCell (j := 1) (Only.refl rb w.heap.size w) (.bool true)
      exact ⟨rfl, ⟨o, c, heap_setCell HRD.out _, hm, hc, bytes_only HB.out hol (fun h => hne h.symm) hbw, hne, HG.out, Nat.lt_of_lt_of_le hbw hol.size⟩, hol⟩
    · have hc1 : w.cell? ⟨rb, 1, none⟩ = some (.bool true) := by simp [World.cell?, hr, hsb]
      clear hb hg hgd hr hsb
      go_enter Try.func87, Try.ntmps87
      go_wp2_with fail
      refine HCALL.out.mono ?_
      rintro r w1 ⟨rfl, rfl⟩
      rw [HI.out]
      go_wp2_with fail
      go_ret
      rw [HN.out]
      have hol := only_setCell (j := 1) (Only.refl rb w.heap.size w) (.bool true)
      exact ⟨rfl, ⟨o, c, heap_setCell HRD.out _, hm, hc, bytes_only HB.out hol (fun h => hne h.symm) hbw, hne, HG.out, Nat.lt_of_lt_of_le hbw hol.size⟩, hol⟩
set_option maxRecDepth 100000 in
theorem next_signed (rb b : Nat) (s : St) (w : World) (h : RdAt w rb 123 b s) :
    Calls Try.prog 87 #[.pointer (some ⟨rb, 0, none⟩), .bool true] w fun r w' => r = .returned (.int .i64 (nextS true s).1) ∧ RdAt w' rb 123 b (nextS true s).2 ∧ Only rb w.heap.size w w' := by
  obtain ⟨o, c, hr, hm, hc, hb, hne, hg, hbw⟩ := h
  have HCALL := hid (rRead_any b o s.m c s.g w (by omega) hg hb)
  have HCALLS := hid (rSigned_any b o s.m c s.g w (by omega) hg hb)
  have HRD := hid hr
  have hc0 : w.cell? ⟨rb, 0, none⟩ = some (.slice (some ⟨b, o, none⟩) s.m c) := by simp [World.cell?, hr]
  have hf0 : w.frozen? ⟨rb, 0, none⟩ = false := by simp [World.frozen?, hr]
  have hf1 : w.frozen? ⟨rb, 1, none⟩ = false := by simp [World.frozen?, hr]
  have HI0 := hid (int3_eq (readV s.g s.m))
  by_cases hgd : (readV s.g s.m).2.2 = 0 ∧ s.bad = false
  · obtain ⟨he, hbd⟩ := hgd
    have hc1 : w.cell? ⟨rb, 1, none⟩ = some (.bool false) := by simp [World.cell?, hr, hbd]
    have HBD := hid hbd
    have hsz := readV_size s.g s.m he
    obtain ⟨k, hk⟩ : ∃ k : Nat, (readV s.g s.m).2.1 = k := ⟨(readV s.g s.m).2.1.toNat, by omega⟩
    have hkm : k ≤ s.m := by omega
    have HN := hid (nextS_good (sg := true) he hbd hk)
    have HI := hid (show int3 (signV (readV s.g s.m)) = .tuple #[.int .i64 ((signV (readV s.g s.m))).1, .int .i64 k, .int .i64 0] by first | (rw [int3_eq, (signV_size _).1, (signV_size _).2 he, he, hk]) | (rw [int3_eq, he, hk]))
    have HB := hid hb
    have HG := hid hg
    clear hb hg he hk hsz hr hbd
    by_cases hck : k < c
    · go_enter Try.func87, Try.ntmps87
      go_wp2_with fail
      refine HCALL.out.mono ?_
      rintro r w1 ⟨rfl, rfl⟩
      rw [HI0.out]
      go_wp2_with fail
      refine HCALLS.out.mono ?_
      rintro r w1 ⟨rfl, rfl⟩
      rw [HI.out]
      go_wp2_with fail
      all_goals first | (exfalso; omega) | skip
      go_ret
      rw [HN.out]
      have hol := only_setCell (j := 0) (Only.refl rb w.heap.size w) (.slice (some ⟨b, o + k, none⟩) (s.m - k) (c - k))
      exact ⟨rfl, rd_after hol hm hc HB.out hne HG.out hbw hkm (Or.inl rfl) (heap_setCell HRD.out _), hol⟩
    · have hcm : c = s.m := by omega
      have hkm2 : k = s.m := by omega
      subst hcm hkm2
      clear hck
      go_enter Try.func87, Try.ntmps87
      go_wp2_with fail
      refine HCALL.out.mono ?_
      rintro r w1 ⟨rfl, rfl⟩
      rw [HI0.out]
      go_wp2_with fail
      refine HCALLS.out.mono ?_
      rintro r w1 ⟨rfl, rfl⟩
      rw [HI.out]
      go_wp2_with fail
      go_ret
      rw [HN.out]
      have hol := only_setCell (j := 0) (Only.refl rb w.heap.size w) (.slice (some ⟨b, o, none⟩) 0 0)
      exact ⟨rfl, rd_after hol hm hc HB.out hne HG.out hbw hkm (Or.inr (Nat.sub_self _)) (by rw [Nat.sub_self]; exact heap_setCell HRD.out _), hol⟩
  · have HN := hid (nextS_bad (sg := true) hgd)
    have HI := hid (show int3 (signV (readV s.g s.m)) = .tuple #[.int .i64 ((signV (readV s.g s.m))).1, .int .i64 ((signV (readV s.g s.m))).2.1, .int .i64 ((signV (readV s.g s.m))).2.2] from rfl)
    have HB := hid hb
    have HG := hid hg
    cases hsb : s.bad
    · have hse : ((signV (readV s.g s.m))).2.2 ≠ 0 := fun h => hgd ⟨by first | exact h | (rw [(signV_size _).1] at h; exact h), hsb⟩
      have hc1 : w.cell? ⟨rb, 1, none⟩ = some (.bool false) := by simp [World.cell?, hr, hsb]
      clear hb hg hgd hr hsb
      go_enter Try.func87, Try.ntmps87
      go_wp2_with fail
      refine HCALL.out.mono ?_
      rintro r w1 ⟨rfl, rfl⟩
      rw [HI0.out]
      go_wp2_with fail
      refine HCALLS.out.mono ?_
      rintro r w1 ⟨rfl, rfl⟩
      rw [HI.out]
      go_wp2_with fail
      go_ret
      rw [HN.out]
      have hol := only_setCell (j := 1) (Only.refl rb w.heap.size w) (.bool true)
      exact ⟨rfl, ⟨o, c, heap_setCell HRD.out _, hm, hc, bytes_only HB.out hol (fun h => hne h.symm) hbw, hne, HG.out, Nat.lt_of_lt_of_le hbw hol.size⟩, hol⟩
    · have hc1 : w.cell? ⟨rb, 1, none⟩ = some (.bool true) := by simp [World.cell?, hr, hsb]
      clear hb hg hgd hr hsb
      go_enter Try.func87, Try.ntmps87
      go_wp2_with fail
      refine HCALL.out.mono ?_
      rintro r w1 ⟨rfl, rfl⟩
      rw [HI0.out]
      go_wp2_with fail
      refine HCALLS.out.mono ?_
      rintro r w1 ⟨rfl, rfl⟩
      rw [HI.out]
      go_wp2_with fail
      go_ret
      rw [HN.out]
      have hol := only_setCell (j := 1) (Only.refl rb w.heap.size w) (.bool true)
      exact ⟨rfl, ⟨o, c, heap_setCell HRD.out _, hm, hc, bytes_only HB.out hol (fun h => hne h.symm) hbw, hne, HG.out, Nat.lt_of_lt_of_le hbw hol.size⟩, hol⟩
end Go.Proofs.Yteanlcefdoigcaa
