/- The readers of numbers: what they return, and what they leave of their bytes. -/
import Derived.Test.YteanlcefdoigcaaNumS
import Derived.Test.YteanlcefdoigcaaBase
namespace Go.Proofs.Yteanlcefdoigcaa
open Go.RowKit

/-- all but the block rb, below B, is as it was -/
structure Only (rb B : Nat) (w w' : World) : Prop where
  os : w'.os = w.os
  tape : w'.tape = w.tape
  output : w'.output = w.output
  size : w.heap.size ≤ w'.heap.size
  block : ∀ k, k < B → k ≠ rb → w'.heap[k]? = w.heap[k]?
theorem Only.of_setRow {rb B : Nat} {w : World} {cs : Array Value} : Only rb B w (w.setRow rb cs) := by
  refine ⟨rfl, rfl, rfl, by simp, fun k hk hne => ?_⟩
  show (w.heap.modify rb _)[k]? = _
  rw [Array.getElem?_modify, if_neg (by omega)]
theorem Only.below {rb B : Nat} {w w' : World} (h : Only rb w.heap.size w w') (hB : B ≤ rb) (hs : B ≤ w.heap.size) : Below B w w' :=
  ⟨h.os, h.tape, h.output, h.size, fun k hk => h.block k (by omega) (by omega)⟩
theorem Only.heap {rb : Nat} {w w' : World} {n : Nat} {x : Obj} (h : Only rb w.heap.size w w') (hne : n ≠ rb) (hx : w.heap[n]? = some x) : w'.heap[n]? = some x := by
  rw [h.block n (Array.getElem?_eq_some_iff.1 hx).1 hne]; exact hx


theorem heap_setCell {w : World} {b t j : Nat} {fr : Nat × Nat} {C : Array Value} (h : w.heap[b]? = some (.cells C t fr)) (v : Value) : (w.setCell ⟨b, j, none⟩ v).heap[b]? = some (.cells (C.setIfInBounds j v) t fr) := by
  simp only [World.setCell, Array.getElem?_modify]
  rw [if_pos trivial, h]
  simp
theorem only_setCell {w w0 : World} {rb B j : Nat} (h : Only rb B w0 w) (v : Value) : Only rb B w0 (w.setCell ⟨rb, j, none⟩ v) := by
  refine ⟨h.os, h.tape, h.output, by simpa using h.size, fun k hk hne => ?_⟩
  rw [Below.heap_setCell w ⟨rb, j, none⟩ v k hne]
  exact h.block k hk hne
theorem Only.refl (rb B : Nat) (w : World) : Only rb B w w := ⟨rfl, rfl, rfl, Nat.le_refl _, fun _ _ _ => rfl⟩

set_option maxRecDepth 100000 in
theorem step_bad (rb b off n c : Nat) (bd : Bool) (v s e : Int) (w : World) (he : e ≠ 0 ∨ bd = true) (hr : w.heap[rb]? = some (.cells #[.slice (some ⟨b, off, none⟩) n c, .bool bd] 118)) :
    Calls Try.prog 112 #[.pointer (some ⟨rb, 0, none⟩), .int .i64 v, .int .i64 s, .int .i64 e] w fun r w' => r = .returned (.int .i64 0) ∧ w'.heap[rb]? = some (.cells #[.slice (some ⟨b, off, none⟩) n c, .bool true] 118) ∧ Only rb w.heap.size w w' := by
  have HR := hid hr
  have hc0 : w.cell? ⟨rb, 0, none⟩ = some (.slice (some ⟨b, off, none⟩) n c) := by simp [World.cell?, hr]
  have hf1 : w.frozen? ⟨rb, 1, none⟩ = false := by simp [World.frozen?, hr]
  by_cases he0 : e = 0
  · obtain rfl : bd = true := he.resolve_left (fun h => h he0)
    have hc1 : w.cell? ⟨rb, 1, none⟩ = some (.bool true) := by simp [World.cell?, hr]
    clear hr he
    subst he0
    go_enter Try.func112, Try.ntmps112
    go_wp2_with fail
    go_ret
    exact ⟨rfl, heap_setCell HR.out _, only_setCell (Only.refl _ _ _) _⟩
  · have hc1 : w.cell? ⟨rb, 1, none⟩ = some (.bool bd) := by simp [World.cell?, hr]
    have hee : (e == 0) = false := by simp [he0]
    clear hr he
    go_enter Try.func112, Try.ntmps112
    go_wp2_with fail
    go_ret
    exact ⟨rfl, heap_setCell HR.out _, only_setCell (Only.refl _ _ _) _⟩
set_option maxRecDepth 100000 in
theorem step_good (rb b off n c k : Nat) (v : Int) (w : World) (hk : k ≤ n) (hn : n ≤ c) (hc : c ≤ 9223372036854775807) (hr : w.heap[rb]? = some (.cells #[.slice (some ⟨b, off, none⟩) n c, .bool false] 118)) :
    Calls Try.prog 112 #[.pointer (some ⟨rb, 0, none⟩), .int .i64 v, .int .i64 k, .int .i64 0] w fun r w' => r = .returned (.int .i64 v) ∧ (∃ o, (o = off + k ∨ n - k = 0) ∧ w'.heap[rb]? = some (.cells #[.slice (some ⟨b, o, none⟩) (n - k) (c - k), .bool false] 118)) ∧ Only rb w.heap.size w w' := by
  have HR := hid hr
  have hc0 : w.cell? ⟨rb, 0, none⟩ = some (.slice (some ⟨b, off, none⟩) n c) := by simp [World.cell?, hr]
  have hc1 : w.cell? ⟨rb, 1, none⟩ = some (.bool false) := by simp [World.cell?, hr]
  have hf1 : w.frozen? ⟨rb, 0, none⟩ = false := by simp [World.frozen?, hr]
  clear hr
  by_cases hck : k < c
  · go_enter Try.func112, Try.ntmps112
    go_wp2_with fail
    all_goals first | (exfalso; omega) | (go_ret; exact ⟨rfl, ⟨off + k, Or.inl rfl, heap_setCell HR.out _⟩, only_setCell (Only.refl _ _ _) _⟩)
  · obtain rfl : k = c := by omega
    obtain rfl : n = k := by omega
    clear hck
    go_enter Try.func112, Try.ntmps112
    go_wp2_with fail
    all_goals first | (go_ret; exact ⟨rfl, ⟨off, Or.inr (Nat.sub_self _), by rw [Nat.sub_self]; exact heap_setCell HR.out _⟩, only_setCell (Only.refl _ _ _) _⟩) | (go_ret; exact ⟨rfl, ⟨off + n, Or.inl rfl, heap_setCell HR.out _⟩, only_setCell (Only.refl _ _ _) _⟩)

/-- what a reader has still to read: the bytes, how many, and whether one was none -/
structure St where
  g : Nat → Nat
  m : Nat
  bad : Bool
/-- one number read -/
def nextS (sg : Bool) (s : St) : Int × St :=
  let x := if sg then signV (readV s.g s.m) else readV s.g s.m
  if x.2.2 = 0 ∧ s.bad = false then (x.1, ⟨fun i => s.g (i + x.2.1.toNat), s.m - x.2.1.toNat, s.bad⟩) else (0, ⟨s.g, s.m, true⟩)
/-- a reader in memory, at its bytes -/
def RdAt (w : World) (rb ty b : Nat) (s : St) : Prop :=
  ∃ o c, w.heap[rb]? = some (.cells #[.slice (some ⟨b, o, none⟩) s.m c, .bool s.bad] ty) ∧ s.m ≤ c ∧ c ≤ 9223372036854775807 ∧ bytesAt w b o s.m s.g ∧ rb ≠ b ∧ (∀ i, s.g i < 256) ∧ b < w.heap.size
theorem bytes_only {w w' : World} {rb b o m : Nat} {g : Nat → Nat} (h : bytesAt w b o m g) (ho : Only rb w.heap.size w w') (hne : b ≠ rb) (hb : b < w.heap.size) : bytesAt w' b o m g := by
  intro i hi
  rw [World.cell?_of_block (w := w) (w' := w') (a := ⟨b, o + i, none⟩) (ho.block b hb hne)]
  exact h i hi
theorem nextS_bad {sg : Bool} {s : St} (h : ¬ ((readV s.g s.m).2.2 = 0 ∧ s.bad = false)) : nextS sg s = (0, ⟨s.g, s.m, true⟩) := by
  unfold nextS
  cases sg
  · exact if_neg h
  · exact if_neg (by show ¬ ((signV _).2.2 = 0 ∧ _); rw [(signV_size _).1]; exact h)
theorem nextS_good {sg : Bool} {s : St} {k : Nat} (h : (readV s.g s.m).2.2 = 0) (hb : s.bad = false) (hk : (readV s.g s.m).2.1 = k) : nextS sg s = ((if sg then signV (readV s.g s.m) else readV s.g s.m).1, ⟨fun i => s.g (i + k), s.m - k, s.bad⟩) := by
  unfold nextS
  cases sg
  · refine (if_pos ⟨h, hb⟩).trans ?_
    simp only [Bool.false_eq_true, if_false, hk, Int.toNat_natCast]
  · refine (if_pos (show (signV _).2.2 = 0 ∧ _ by rw [(signV_size _).1]; exact ⟨h, hb⟩)).trans ?_
    simp only [if_true, (signV_size _).2 h, hk, Int.toNat_natCast]

theorem rd_after {w w' : World} {rb ty b o o' c k : Nat} {s : St} (ho : Only rb w.heap.size w w') (hm : s.m ≤ c) (hc : c ≤ 9223372036854775807) (hb : bytesAt w b o s.m s.g) (hne : rb ≠ b) (hg : ∀ i, s.g i < 256) (hbw : b < w.heap.size)
    (hk : k ≤ s.m) (h : o' = o + k ∨ s.m - k = 0) (hr : w'.heap[rb]? = some (.cells #[.slice (some ⟨b, o', none⟩) (s.m - k) (c - k), .bool s.bad] ty)) : RdAt w' rb ty b ⟨fun i => s.g (i + k), s.m - k, s.bad⟩ := by
  refine ⟨o', c - k, hr, by show s.m - k ≤ c - k; omega, by omega, ?_, hne, fun i => hg _, Nat.lt_of_lt_of_le hbw ho.size⟩
  intro i hi
  have hi' : i < s.m - k := hi
  rcases h with rfl | h
  · have h1 := bytes_only hb ho (fun h => hne h.symm) hbw (i + k) (by omega)
    rw [show o + k + i = o + (i + k) by omega]
    exact h1
  · omega

set_option maxRecDepth 100000 in
theorem number_any (rb b : Nat) (s : St) (w : World) (h : RdAt w rb 118 b s) :
    Calls Try.prog 84 #[.pointer (some ⟨rb, 0, none⟩)] w fun r w' => r = .returned (.int .i64 (nextS false s).1) ∧ RdAt w' rb 118 b (nextS false s).2 ∧ Only rb w.heap.size w w' := by
  obtain ⟨o, c, hr, hm, hc, hb, hne, hg, hbw⟩ := h
  have HCALL := hid (xRead_any b o s.m c s.g w (by omega) hg hb)
  have HRD := hid hr
  have hc0 : w.cell? ⟨rb, 0, none⟩ = some (.slice (some ⟨b, o, none⟩) s.m c) := by simp [World.cell?, hr]
  by_cases hgd : (readV s.g s.m).2.2 = 0 ∧ s.bad = false
  · obtain ⟨he, hbd⟩ := hgd
    have HBD := hid hbd
    have hsz := readV_size s.g s.m he
    obtain ⟨k, hk⟩ : ∃ k : Nat, (readV s.g s.m).2.1 = k := ⟨(readV s.g s.m).2.1.toNat, by omega⟩
    have hkm : k ≤ s.m := by omega
    have HN := hid (nextS_good (sg := false) he hbd hk)
    have HI := hid (show int3 (readV s.g s.m) = .tuple #[.int .i64 ((readV s.g s.m)).1, .int .i64 k, .int .i64 0] by first | (rw [int3_eq, (signV_size _).1, (signV_size _).2 he, he, hk]) | (rw [int3_eq, he, hk]))
    have HB := hid hb
    have HG := hid hg
    clear hb hg he hk hsz hbd
    go_enter Try.func84, Try.ntmps84
    go_wp2_with fail
    refine HCALL.out.mono ?_
    rintro r w1 ⟨rfl, rfl⟩
    rw [HI.out]
    go_wp2_with fail
    refine (step_good rb b o s.m c k _ _ hkm hm hc (by rw [← HBD.out]; exact HRD.out)).mono ?_
    rintro r w2 ⟨rfl, ⟨o', ho', hr'⟩, hol⟩
    go_wp2_with fail
    go_ret
    rw [HN.out]
    exact ⟨rfl, rd_after hol hm hc HB.out hne HG.out hbw hkm ho' (by rw [HBD.out]; exact hr'), hol⟩
  · have HN := hid (nextS_bad (sg := false) hgd)
    have HI := hid (show int3 (readV s.g s.m) = .tuple #[.int .i64 ((readV s.g s.m)).1, .int .i64 ((readV s.g s.m)).2.1, .int .i64 ((readV s.g s.m)).2.2] from rfl)
    have hse : ((readV s.g s.m)).2.2 ≠ 0 ∨ s.bad = true := by
      by_cases hb2 : s.bad = true
      · exact Or.inr hb2
      · refine Or.inl (fun h => hgd ⟨?_, by simpa using hb2⟩)
        first | exact h | (rw [(signV_size _).1] at h; exact h)
    have HB := hid hb
    have HG := hid hg
    clear hb hg hgd
    go_enter Try.func84, Try.ntmps84
    go_wp2_with fail
    refine HCALL.out.mono ?_
    rintro r w1 ⟨rfl, rfl⟩
    rw [HI.out]
    go_wp2_with fail
    refine (step_bad rb b o s.m c s.bad _ _ _ _ hse HRD.out).mono ?_
    rintro r w2 ⟨rfl, hr', hol⟩
    go_wp2_with fail
    go_ret
    rw [HN.out]
    exact ⟨rfl, ⟨o, c, hr', hm, hc, bytes_only HB.out hol (fun h => hne h.symm) hbw, hne, HG.out, Nat.lt_of_lt_of_le hbw hol.size⟩, hol⟩
set_option maxRecDepth 100000 in
theorem signed_any (rb b : Nat) (s : St) (w : World) (h : RdAt w rb 118 b s) :
    Calls Try.prog 113 #[.pointer (some ⟨rb, 0, none⟩)] w fun r w' => r = .returned (.int .i64 (nextS true s).1) ∧ RdAt w' rb 118 b (nextS true s).2 ∧ Only rb w.heap.size w w' := by
  obtain ⟨o, c, hr, hm, hc, hb, hne, hg, hbw⟩ := h
  have HCALL := hid (xSigned_any b o s.m c s.g w (by omega) hg hb)
  have HRD := hid hr
  have hc0 : w.cell? ⟨rb, 0, none⟩ = some (.slice (some ⟨b, o, none⟩) s.m c) := by simp [World.cell?, hr]
  by_cases hgd : (readV s.g s.m).2.2 = 0 ∧ s.bad = false
  · obtain ⟨he, hbd⟩ := hgd
    have HBD := hid hbd
    have hsz := readV_size s.g s.m he
    obtain ⟨k, hk⟩ : ∃ k : Nat, (readV s.g s.m).2.1 = k := ⟨(readV s.g s.m).2.1.toNat, by omega⟩
    have hkm : k ≤ s.m := by omega
    have HN := hid (nextS_good (sg := true) he hbd hk)
    have HI := hid (show int3 (signV (readV s.g s.m)) = .tuple #[.int .i64 ((signV (readV s.g s.m))).1, .int .i64 k, .int .i64 0] by first | (rw [int3_eq, (signV_size _).1, (signV_size _).2 he, he, hk]) | (rw [int3_eq, he, hk]))
    have HB := hid hb
    have HG := hid hg
    clear hb hg he hk hsz hbd
    go_enter Try.func113, Try.ntmps113
    go_wp2_with fail
    refine HCALL.out.mono ?_
    rintro r w1 ⟨rfl, rfl⟩
    rw [HI.out]
    go_wp2_with fail
    refine (step_good rb b o s.m c k _ _ hkm hm hc (by rw [← HBD.out]; exact HRD.out)).mono ?_
    rintro r w2 ⟨rfl, ⟨o', ho', hr'⟩, hol⟩
    go_wp2_with fail
    go_ret
    rw [HN.out]
    exact ⟨rfl, rd_after hol hm hc HB.out hne HG.out hbw hkm ho' (by rw [HBD.out]; exact hr'), hol⟩
  · have HN := hid (nextS_bad (sg := true) hgd)
    have HI := hid (show int3 (signV (readV s.g s.m)) = .tuple #[.int .i64 ((signV (readV s.g s.m))).1, .int .i64 ((signV (readV s.g s.m))).2.1, .int .i64 ((signV (readV s.g s.m))).2.2] from rfl)
    have hse : ((signV (readV s.g s.m))).2.2 ≠ 0 ∨ s.bad = true := by
      by_cases hb2 : s.bad = true
      · exact Or.inr hb2
      · refine Or.inl (fun h => hgd ⟨?_, by simpa using hb2⟩)
        first | exact h | (rw [(signV_size _).1] at h; exact h)
    have HB := hid hb
    have HG := hid hg
    clear hb hg hgd
    go_enter Try.func113, Try.ntmps113
    go_wp2_with fail
    refine HCALL.out.mono ?_
    rintro r w1 ⟨rfl, rfl⟩
    rw [HI.out]
    go_wp2_with fail
    refine (step_bad rb b o s.m c s.bad _ _ _ _ hse HRD.out).mono ?_
    rintro r w2 ⟨rfl, hr', hol⟩
    go_wp2_with fail
    go_ret
    rw [HN.out]
    exact ⟨rfl, ⟨o, c, hr', hm, hc, bytes_only HB.out hol (fun h => hne h.symm) hbw, hne, HG.out, Nat.lt_of_lt_of_le hbw hol.size⟩, hol⟩
end Go.Proofs.Yteanlcefdoigcaa
