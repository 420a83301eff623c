/- Texts of the seat Yteanlcefdoigcaa, turned to this one by wip/port.py: Reader Next Writer EncM EncX EncR DecM DecX Sum DecY. -/
import Derived.Test.YtpablkmdpoombaaFund
import Derived.Test.YtpablkmdpoombaaVal
import Derived.Test.YtpablkmdpoombaaPts
import Derived.Test.YtpablkmdpoombaaSrt
import Derived.Test.YtpablkmdpoombaaNum
import Derived.Test.YtpablkmdpoombaaCrc
/- Reader -/
namespace Go.Proofs.Ytpablkmdpoombaa
open Go.RowKit

/-- all but the block rb, below B, is as it was -/
structure Only (rb B : Nat) (w w' : World) : Prop where
  os : w'.os = w.os
  tape : w'.tape = w.tape
  output : w'.output = w.output
  size : w.heap.size ≤ w'.heap.size
  block : ∀ k, k < B → k ≠ rb → w'.heap[k]? = w.heap[k]?
theorem Only.heap {rb : Nat} {w w' : World} {n : Nat} {x : Obj} (h : Only rb w.heap.size w w') (hne : n ≠ rb) (hx : w.heap[n]? = some x) : w'.heap[n]? = some x := by
  rw [h.block n (Array.getElem?_eq_some_iff.1 hx).1 hne]; exact hx


theorem heap_setCell {w : World} {b t j : Nat} {fr : Nat × Nat} {C : Array Value} (h : w.heap[b]? = some (.cells C t fr)) (v : Value) : (w.setCell ⟨b, j, none⟩ v).heap[b]? = some (.cells (C.setIfInBounds j v) t fr) := by
  simp only [World.setCell, Array.getElem?_modify]
  rw [if_pos trivial, h]
  simp
theorem only_setCell {w w0 : World} {rb B j : Nat} (h : Only rb B w0 w) (v : Value) : Only rb B w0 (w.setCell ⟨rb, j, none⟩ v) := by
  refine ⟨h.os, h.tape, h.output, by simpa using h.size, fun k hk hne => ?_⟩
  rw [Below.heap_setCell w ⟨rb, j, none⟩ v k hne]
  exact h.block k hk hne
theorem Only.refl (rb B : Nat) (w : World) : Only rb B w w := ⟨rfl, rfl, rfl, Nat.le_refl _, fun _ _ _ => rfl⟩

/-- what a reader has still to read: the bytes, how many, and whether one was none -/
structure St where
  g : Nat → Nat
  m : Nat
  bad : Bool
/-- one number read -/
def nextS (sg : Bool) (s : St) : Int × St :=
  let x := if sg then signV (readV s.g s.m) else readV s.g s.m
  if x.2.2 = 0 ∧ s.bad = false then (x.1, ⟨fun i => s.g (i + x.2.1.toNat), s.m - x.2.1.toNat, s.bad⟩) else (0, ⟨s.g, s.m, true⟩)
/-- a reader in memory, at its bytes -/
def RdAt (w : World) (rb ty b : Nat) (s : St) : Prop :=
  ∃ o c, w.heap[rb]? = some (.cells #[.slice (some ⟨b, o, none⟩) s.m c, .bool s.bad] ty) ∧ s.m ≤ c ∧ c ≤ 9223372036854775807 ∧ bytesAt w b o s.m s.g ∧ rb ≠ b ∧ (∀ i, s.g i < 256) ∧ b < w.heap.size
theorem bytes_only {w w' : World} {rb b o m : Nat} {g : Nat → Nat} (h : bytesAt w b o m g) (ho : Only rb w.heap.size w w') (hne : b ≠ rb) (hb : b < w.heap.size) : bytesAt w' b o m g := by
  intro i hi
  rw [World.cell?_of_block (w := w) (w' := w') (a := ⟨b, o + i, none⟩) (ho.block b hb hne)]
  exact h i hi
theorem nextS_bad {sg : Bool} {s : St} (h : ¬ ((readV s.g s.m).2.2 = 0 ∧ s.bad = false)) : nextS sg s = (0, ⟨s.g, s.m, true⟩) := by
  unfold nextS
  cases sg
  · exact if_neg h
  · exact if_neg (by show ¬ ((signV _).2.2 = 0 ∧ _); rw [(signV_size _).1]; exact h)
theorem nextS_good {sg : Bool} {s : St} {k : Nat} (h : (readV s.g s.m).2.2 = 0) (hb : s.bad = false) (hk : (readV s.g s.m).2.1 = k) : nextS sg s = ((if sg then signV (readV s.g s.m) else readV s.g s.m).1, ⟨fun i => s.g (i + k), s.m - k, s.bad⟩) := by
  unfold nextS
  cases sg
  · refine (if_pos ⟨h, hb⟩).trans ?_
    simp only [Bool.false_eq_true, if_false, hk, Int.toNat_natCast]
  · refine (if_pos (show (signV _).2.2 = 0 ∧ _ by rw [(signV_size _).1]; exact ⟨h, hb⟩)).trans ?_
    simp only [if_true, (signV_size _).2 h, hk, Int.toNat_natCast]

theorem rd_after {w w' : World} {rb ty b o o' c k : Nat} {s : St} (ho : Only rb w.heap.size w w') (hm : s.m ≤ c) (hc : c ≤ 9223372036854775807) (hb : bytesAt w b o s.m s.g) (hne : rb ≠ b) (hg : ∀ i, s.g i < 256) (hbw : b < w.heap.size)
    (hk : k ≤ s.m) (h : o' = o + k ∨ s.m - k = 0) (hr : w'.heap[rb]? = some (.cells #[.slice (some ⟨b, o', none⟩) (s.m - k) (c - k), .bool s.bad] ty)) : RdAt w' rb ty b ⟨fun i => s.g (i + k), s.m - k, s.bad⟩ := by
  refine ⟨o', c - k, hr, by show s.m - k ≤ c - k; omega, by omega, ?_, hne, fun i => hg _, Nat.lt_of_lt_of_le hbw ho.size⟩
  intro i hi
  have hi' : i < s.m - k := hi
  rcases h with rfl | h
  · have h1 := bytes_only hb ho (fun h => hne h.symm) hbw (i + k) (by omega)
    rw [show o + k + i = o + (i + k) by omega]
    exact h1
  · omega

end Go.Proofs.Ytpablkmdpoombaa

/- Next -/
namespace Go.Proofs.Ytpablkmdpoombaa
open Go.RowKit

set_option maxRecDepth 100000 in
theorem next_number (rb b : Nat) (s : St) (w : World) (h : RdAt w rb 96 b s) :
    Calls Try.prog 46 #[.pointer (some ⟨rb, 0, none⟩), .bool false] w fun r w' => r = .returned (.int .i64 (nextS false s).1) ∧ RdAt w' rb 96 b (nextS false s).2 ∧ Only rb w.heap.size w w' := by
  obtain ⟨o, c, hr, hm, hc, hb, hne, hg, hbw⟩ := h
  have HCALL := hid (rRead_any b o s.m c s.g w (by omega) hg hb)
  have HCALLS := hid (rSigned_any b o s.m c s.g w (by omega) hg hb)
  have HRD := hid hr
  have hc0 : w.cell? ⟨rb, 0, none⟩ = some (.slice (some ⟨b, o, none⟩) s.m c) := by simp [World.cell?, hr]
  have hf0 : w.frozen? ⟨rb, 0, none⟩ = false := by simp [World.frozen?, hr]
  have hf1 : w.frozen? ⟨rb, 1, none⟩ = false := by simp [World.frozen?, hr]
  have HI0 := hid (int3_eq (readV s.g s.m))
  by_cases hgd : (readV s.g s.m).2.2 = 0 ∧ s.bad = false
  · obtain ⟨he, hbd⟩ := hgd
    have hc1 : w.cell? ⟨rb, 1, none⟩ = some (.bool false) := by simp [World.cell?, hr, hbd]
    have HBD := hid hbd
    have hsz := readV_size s.g s.m he
    obtain ⟨k, hk⟩ : ∃ k : Nat, (readV s.g s.m).2.1 = k := ⟨(readV s.g s.m).2.1.toNat, by omega⟩
    have hkm : k ≤ s.m := by omega
    have HN := hid (nextS_good (sg := false) he hbd hk)
    have HI := hid (show int3 (readV s.g s.m) = .tuple #[.int .i64 ((readV s.g s.m)).1, .int .i64 k, .int .i64 0] by first | (rw [int3_eq, (signV_size _).1, (signV_size _).2 he, he, hk]) | (rw [int3_eq, he, hk]))
    have HB := hid hb
    have HG := hid hg
    clear hb hg he hk hsz hr hbd
    by_cases hck : k < c
    · go_enter Try.func46, Try.ntmps46
      go_wp2_with fail
      refine HCALL.out.mono ?_
      rintro r w1 ⟨rfl, rfl⟩
      rw [HI.out]
      go_wp2_with fail
      all_goals first | (exfalso; omega) | skip
      go_ret
      rw [HN.out]
      have hol := only_setCell (j := 0) (Only.refl rb w.heap.size w) (.slice (some ⟨b, o + k, none⟩) (s.m - k) (c - k))
      exact ⟨rfl, rd_after hol hm hc HB.out hne HG.out hbw hkm (Or.inl rfl) (heap_setCell HRD.out _), hol⟩
    · have hcm : c = s.m := by omega
      have hkm2 : k = s.m := by omega
      subst hcm hkm2
      clear hck
      go_enter Try.func46, Try.ntmps46
      go_wp2_with fail
      refine HCALL.out.mono ?_
      rintro r w1 ⟨rfl, rfl⟩
      rw [HI.out]
      go_wp2_with fail
      go_ret
      rw [HN.out]
      have hol := only_setCell (j := 0) (Only.refl rb w.heap.size w) (.slice (some ⟨b, o, none⟩) 0 0)
      exact ⟨rfl, rd_after hol hm hc HB.out hne HG.out hbw hkm (Or.inr (Nat.sub_self _)) (by rw [Nat.sub_self]; exact heap_setCell HRD.out _), hol⟩
  · have HN := hid (nextS_bad (sg := false) hgd)
    have HI := hid (show int3 (readV s.g s.m) = .tuple #[.int .i64 ((readV s.g s.m)).1, .int .i64 ((readV s.g s.m)).2.1, .int .i64 ((readV s.g s.m)).2.2] from rfl)
    have HB := hid hb
    have HG := hid hg
    cases hsb : s.bad
    · have hse : ((readV s.g s.m)).2.2 ≠ 0 := fun h => hgd ⟨by first | exact h | (rw [(signV_size _).1] at h; exact h), hsb⟩
      have hc1 : w.cell? ⟨rb, 1, none⟩ = some (.bool false) := by simp [World.cell?, hr, hsb]
      clear hb hg hgd hr hsb
      go_enter Try.func46, Try.ntmps46
      go_wp2_with fail
      refine HCALL.out.mono ?_
      rintro r w1 ⟨rfl, rfl⟩
      rw [HI.out]
      go_wp2_with fail
      go_ret
      rw [HN.out]
      have hol := only_setCell (j := 1) (Only.refl rb w.heap.size w) (.bool true)
      exact ⟨rfl, ⟨o, c, heap_setCell HRD.out _, hm, hc, bytes_only HB.out hol (fun h => hne h.symm) hbw, hne, HG.out, Nat.lt_of_lt_of_le hbw hol.size⟩, hol⟩
    · have hc1 : w.cell? ⟨rb, 1, none⟩ = some (.bool true) := by simp [World.cell?, hr, hsb]
      clear hb hg hgd hr hsb
      go_enter Try.func46, Try.ntmps46
      go_wp2_with fail
      refine HCALL.out.mono ?_
      rintro r w1 ⟨rfl, rfl⟩
      rw [HI.out]
      go_wp2_with fail
      go_ret
      rw [HN.out]
      have hol := only_setCell (j := 1) (Only.refl rb w.heap.size w) (.bool true)
      exact ⟨rfl, ⟨o, c, heap_setCell HRD.out _, hm, hc, bytes_only HB.out hol (fun h => hne h.symm) hbw, hne, HG.out, Nat.lt_of_lt_of_le hbw hol.size⟩, hol⟩
set_option maxRecDepth 100000 in
theorem next_signed (rb b : Nat) (s : St) (w : World) (h : RdAt w rb 96 b s) :
    Calls Try.prog 46 #[.pointer (some ⟨rb, 0, none⟩), .bool true] w fun r w' => r = .returned (.int .i64 (nextS true s).1) ∧ RdAt w' rb 96 b (nextS true s).2 ∧ Only rb w.heap.size w w' := by
  obtain ⟨o, c, hr, hm, hc, hb, hne, hg, hbw⟩ := h
  have HCALL := hid (rRead_any b o s.m c s.g w (by omega) hg hb)
  have HCALLS := hid (rSigned_any b o s.m c s.g w (by omega) hg hb)
  have HRD := hid hr
  have hc0 : w.cell? ⟨rb, 0, none⟩ = some (.slice (some ⟨b, o, none⟩) s.m c) := by simp [World.cell?, hr]
  have hf0 : w.frozen? ⟨rb, 0, none⟩ = false := by simp [World.frozen?, hr]
  have hf1 : w.frozen? ⟨rb, 1, none⟩ = false := by simp [World.frozen?, hr]
  have HI0 := hid (int3_eq (readV s.g s.m))
  by_cases hgd : (readV s.g s.m).2.2 = 0 ∧ s.bad = false
  · obtain ⟨he, hbd⟩ := hgd
    have hc1 : w.cell? ⟨rb, 1, none⟩ = some (.bool false) := by simp [World.cell?, hr, hbd]
    have HBD := hid hbd
    have hsz := readV_size s.g s.m he
    obtain ⟨k, hk⟩ : ∃ k : Nat, (readV s.g s.m).2.1 = k := ⟨(readV s.g s.m).2.1.toNat, by omega⟩
    have hkm : k ≤ s.m := by omega
    have HN := hid (nextS_good (sg := true) he hbd hk)
    have HI := hid (show int3 (signV (readV s.g s.m)) = .tuple #[.int .i64 ((signV (readV s.g s.m))).1, .int .i64 k, .int .i64 0] by first | (rw [int3_eq, (signV_size _).1, (signV_size _).2 he, he, hk]) | (rw [int3_eq, he, hk]))
    have HB := hid hb
    have HG := hid hg
    clear hb hg he hk hsz hr hbd
    by_cases hck : k < c
    · go_enter Try.func46, Try.ntmps46
      go_wp2_with fail
      refine HCALL.out.mono ?_
      rintro r w1 ⟨rfl, rfl⟩
      rw [HI0.out]
      go_wp2_with fail
      refine HCALLS.out.mono ?_
      rintro r w1 ⟨rfl, rfl⟩
      rw [HI.out]
      go_wp2_with fail
      all_goals first | (exfalso; omega) | skip
      go_ret
      rw [HN.out]
      have hol := only_setCell (j := 0) (Only.refl rb w.heap.size w) (.slice (some ⟨b, o + k, none⟩) (s.m - k) (c - k))
      exact ⟨rfl, rd_after hol hm hc HB.out hne HG.out hbw hkm (Or.inl rfl) (heap_setCell HRD.out _), hol⟩
    · have hcm : c = s.m := by omega
      have hkm2 : k = s.m := by omega
      subst hcm hkm2
      clear hck
      go_enter Try.func46, Try.ntmps46
      go_wp2_with fail
      refine HCALL.out.mono ?_
      rintro r w1 ⟨rfl, rfl⟩
      rw [HI0.out]
      go_wp2_with fail
      refine HCALLS.out.mono ?_
      rintro r w1 ⟨rfl, rfl⟩
      rw [HI.out]
      go_wp2_with fail
      go_ret
      rw [HN.out]
      have hol := only_setCell (j := 0) (Only.refl rb w.heap.size w) (.slice (some ⟨b, o, none⟩) 0 0)
      exact ⟨rfl, rd_after hol hm hc HB.out hne HG.out hbw hkm (Or.inr (Nat.sub_self _)) (by rw [Nat.sub_self]; exact heap_setCell HRD.out _), hol⟩
  · have HN := hid (nextS_bad (sg := true) hgd)
    have HI := hid (show int3 (signV (readV s.g s.m)) = .tuple #[.int .i64 ((signV (readV s.g s.m))).1, .int .i64 ((signV (readV s.g s.m))).2.1, .int .i64 ((signV (readV s.g s.m))).2.2] from rfl)
    have HB := hid hb
    have HG := hid hg
    cases hsb : s.bad
    · have hse : ((signV (readV s.g s.m))).2.2 ≠ 0 := fun h => hgd ⟨by first | exact h | (rw [(signV_size _).1] at h; exact h), hsb⟩
      have hc1 : w.cell? ⟨rb, 1, none⟩ = some (.bool false) := by simp [World.cell?, hr, hsb]
      clear hb hg hgd hr hsb
      go_enter Try.func46, Try.ntmps46
      go_wp2_with fail
      refine HCALL.out.mono ?_
      rintro r w1 ⟨rfl, rfl⟩
      rw [HI0.out]
      go_wp2_with fail
      refine HCALLS.out.mono ?_
      rintro r w1 ⟨rfl, rfl⟩
      rw [HI.out]
      go_wp2_with fail
      go_ret
      rw [HN.out]
      have hol := only_setCell (j := 1) (Only.refl rb w.heap.size w) (.bool true)
      exact ⟨rfl, ⟨o, c, heap_setCell HRD.out _, hm, hc, bytes_only HB.out hol (fun h => hne h.symm) hbw, hne, HG.out, Nat.lt_of_lt_of_le hbw hol.size⟩, hol⟩
    · have hc1 : w.cell? ⟨rb, 1, none⟩ = some (.bool true) := by simp [World.cell?, hr, hsb]
      clear hb hg hgd hr hsb
      go_enter Try.func46, Try.ntmps46
      go_wp2_with fail
      refine HCALL.out.mono ?_
      rintro r w1 ⟨rfl, rfl⟩
      rw [HI0.out]
      go_wp2_with fail
      refine HCALLS.out.mono ?_
      rintro r w1 ⟨rfl, rfl⟩
      rw [HI.out]
      go_wp2_with fail
      go_ret
      rw [HN.out]
      have hol := only_setCell (j := 1) (Only.refl rb w.heap.size w) (.bool true)
      exact ⟨rfl, ⟨o, c, heap_setCell HRD.out _, hm, hc, bytes_only HB.out hol (fun h => hne h.symm) hbw, hne, HG.out, Nat.lt_of_lt_of_le hbw hol.size⟩, hol⟩
end Go.Proofs.Ytpablkmdpoombaa

/- Writer -/
namespace Go.Proofs.Ytpablkmdpoombaa
open Go.RowKit

theorem OwnB.same {w w' : World} {B : Nat} {v : Value} {xs : List Nat} (h : OwnB w B v xs) (hs : ∀ g, v.ownBlock = some g → w'.heap[g]? = w.heap[g]?) : OwnB w' B v xs := by
  obtain ⟨⟨h1, h2⟩, h3⟩ := h
  refine ⟨⟨h1, ?_⟩, h3⟩
  rcases h2 with h2 | ⟨g', cap', cur, rfl, hg, hr, h4⟩
  · exact Or.inl h2
  · exact Or.inr ⟨_, _, cur, rfl, hg, (hs _ rfl).trans hr, h4⟩
theorem OwnB.shape {w : World} {B : Nat} {v : Value} {xs : List Nat} (h : OwnB w B v xs) : ∃ p n cap, v = .slice p n cap := by
  rcases h.cases with ⟨rfl, _⟩ | ⟨g, cap, rfl, _⟩
  · exact ⟨_, _, _, rfl⟩
  · exact ⟨_, _, _, rfl⟩
theorem OwnB.block {w : World} {B g : Nat} {v : Value} {xs : List Nat} (h : OwnB w B v xs) (hg : v.ownBlock = some g) : B ≤ g ∧ g < w.heap.size := h.1.lt g hg
theorem OwnB.grow {w w' : World} {B : Nat} {v : Value} {xs : List Nat} (h : OwnB w B v xs) (hb : Below w.heap.size w w') : OwnB w' B v xs := h.same fun g hg => hb.block g (h.block hg).2
theorem Only.of_below {rb B : Nat} {w w' : World} (h : Below B w w') : Only rb B w w' := ⟨h.os, h.tape, h.output, h.size, fun k hk _ => h.block k hk⟩
theorem Only.trans {rb B B' : Nat} {w w1 w2 : World} (h : Only rb B w w1) (h2 : Only rb B' w1 w2) (hs : B ≤ B') : Only rb B w w2 :=
  ⟨h2.os.trans h.os, h2.tape.trans h.tape, h2.output.trans h.output, Nat.le_trans h.size h2.size, fun k hk hne => (h2.block k (by omega) hne).trans (h.block k hk hne)⟩
end Go.Proofs.Ytpablkmdpoombaa

/- EncM -/
namespace Go.Proofs.Ytpablkmdpoombaa
open Go.RowKit

/-- the bytes of a point behind one with the Id l -/
def encP (l : Int) (p : Pt) : List Nat := encs encU [p.id - l] ++ encs encS [p.x, p.y, p.zl] ++ encs encU [p.zh - p.zl, p.wd, p.nm, p.of, p.cl]
def encPs : Int → List Pt → List Nat
  | _, [] => []
  | l, p :: P => encP l p ++ encPs p.id P
def endL : Int → List Pt → Int
  | l, [] => l
  | _, p :: P => endL p.id P
theorem endL_snoc (l : Int) (p : Pt) : ∀ A, endL l (A ++ [p]) = p.id
  | [] => rfl
  | a :: A => endL_snoc a.id p A
theorem encPs_snoc (p : Pt) : ∀ (l : Int) A, encPs l (A ++ [p]) = encPs l A ++ encP (endL l A) p
  | l, [] => by simp [encPs, endL]
  | l, a :: A => by show encP l a ++ encPs a.id (A ++ [p]) = _; rw [encPs_snoc p a.id A]; simp [encPs, endL]
/-- the numbers of a point can be written -/
structure NumP (l : Int) (p : Pt) : Prop where
  id : 0 ≤ p.id - l ∧ p.id - l ≤ 4611686018427387903
  i : 0 ≤ p.id ∧ p.id ≤ 1152921504606846976
  l : 0 ≤ l ∧ l ≤ 1152921504606846976
  x : -268435456 ≤ p.x ∧ p.x ≤ 268435456
  y : -268435456 ≤ p.y ∧ p.y ≤ 268435456
  z : -268435456 ≤ p.zl ∧ p.zl ≤ 268435456
  h : p.zl ≤ p.zh ∧ p.zh ≤ 268435456
  wd : 0 ≤ p.wd ∧ p.wd ≤ 268435456
  nm : 0 ≤ p.nm ∧ p.nm ≤ 15
  of : 0 ≤ p.of ∧ p.of ≤ 15
  cl : 0 ≤ p.cl ∧ p.cl ≤ 255
def NumsOk (P : List Pt) : Prop := ∀ k p, P[k]? = some p → NumP (endL 0 (P.take k)) p
theorem okP_nums {p : Pt} (h : okP p = true) : (0 ≤ p.id ∧ p.id ≤ 1152921504606846976) ∧ (-268435456 ≤ p.x ∧ p.x ≤ 268435456) ∧ (-268435456 ≤ p.y ∧ p.y ≤ 268435456) ∧ (-268435456 ≤ p.zl ∧ p.zl ≤ 268435456) ∧ (p.zl ≤ p.zh ∧ p.zh ≤ 268435456) ∧ (0 ≤ p.wd ∧ p.wd ≤ 268435456) ∧ (0 ≤ p.nm ∧ p.nm ≤ 15) ∧ (0 ≤ p.of ∧ p.of ≤ 15) ∧ (0 ≤ p.cl ∧ p.cl ≤ 255) := by
  simp [okP, pointB, placeB, inB] at h
  omega
theorem pw_ltE {α : Type} {r : α → α → Prop} {E : List α} {i j : Nat} {a b : α} (hij : i < j) (hi : E[i]? = some a) (hj : E[j]? = some b) (h : E.Pairwise r) : r a b := by
  obtain ⟨h1, rfl⟩ := List.getElem?_eq_some_iff.1 hi
  obtain ⟨h2, rfl⟩ := List.getElem?_eq_some_iff.1 hj
  exact List.pairwise_iff_getElem.1 h i j h1 h2 hij
theorem nums_ok {P : List Pt} (hg : goodL P = true) (ha : P.Pairwise (fun p q => p.id < q.id)) : NumsOk P := fun k p hp => by
  have hall := (goodL_iff P).1 hg |>.2.1
  obtain ⟨h1, h2, h3, h4, h5, h6, h7, h8, h9⟩ := okP_nums (hall p (List.mem_of_getElem? hp))
  have hl : (0 ≤ endL 0 (P.take k) ∧ endL 0 (P.take k) ≤ 1152921504606846976) ∧ endL 0 (P.take k) ≤ p.id := by
    cases k with
    | zero => exact ⟨⟨Int.le_refl _, show (0 : Int) ≤ _ by decide⟩, h1.1⟩
    | succ j =>
      have hlen := (List.getElem?_eq_some_iff.1 hp).1
      have hj : P[j]? = some P[j] := List.getElem?_eq_getElem (by omega)
      rw [take_next hj, endL_snoc]
      have hq := okP_nums (hall P[j] (List.mem_of_getElem? hj))
      have := pw_ltE (show j < j + 1 by omega) hj hp ha
      exact ⟨hq.1, by omega⟩
  exact ⟨by omega, h1, hl.1, h2, h3, h4, h5, h6, h7, h8, h9⟩
def bytes4 (n : Nat) : List Nat := [n / 16777216 % 256, n / 65536 % 256, n / 256 % 256, n % 256]
def crcL (xs : List Nat) : Nat := crcV (fun i => xs.getD i 0) xs.length
theorem encP_len {l : Int} {p : Pt} (h : NumP l p) : (encP l p).length ≤ 81 := by
  have h1 := encs_len (f := encU) (m := 9) [p.id - l] (fun z hz => nat_len (by simp at hz; subst hz; exact h.id))
  have h2 := encs_len (f := encS) (m := 9) [p.x, p.y, p.zl] (fun z hz => zig_len (by
    have := h.x; have := h.y; have := h.z
    simp at hz; omega))
  have h3 := encs_len (f := encU) (m := 9) [p.zh - p.zl, p.wd, p.nm, p.of, p.cl] (fun z hz => nat_len (by
    have := h.z; have := h.h; have := h.wd; have := h.nm; have := h.of; have := h.cl
    simp at hz; omega))
  simp at h1 h2 h3
  unfold encP
  simp
  omega
theorem encPs_len {P : List Pt} (h : NumsOk P) : ∀ k, k ≤ P.length → (encPs 0 (P.take k)).length ≤ 81 * k
  | 0, _ => by simp [encPs]
  | k + 1, hk => by
    have hp : P[k]? = some P[k] := List.getElem?_eq_getElem (by omega)
    have h1 := encPs_len h k (by omega)
    have h2 := encP_len (h k _ hp)
    rw [take_next hp, encPs_snoc, List.length_append]
    omega
end Go.Proofs.Ytpablkmdpoombaa

/- EncX -/
namespace Go.Proofs.Ytpablkmdpoombaa
open Go.RowKit

theorem Only.cell {rb B : Nat} {w w' : World} (h : Only rb B w w') {b o : Nat} (hb : b < B) (hne : b ≠ rb) : w'.cell? ⟨b, o, none⟩ = w.cell? ⟨b, o, none⟩ := World.cell?_of_block (w := w) (w' := w') (a := ⟨b, o, none⟩) (h.block b hb hne)
theorem row_new {w : World} {zs : List Int} {cs : Array Value} {lb : Nat} (hb : lb = w.heap.size) (hcs : cs = (zs.map (Value.int .i64)).toArray) {m : Nat} (hm : zs.length = m) : ∀ i, i < m → (w.alloc (.cells cs 3)).cell? ⟨lb, 0 + i, none⟩ = some (.int .i64 (zs.getD i 0)) := fun i hi => by
  subst hcs hm hb
  rw [Nat.zero_add, cell_row (heap_alloc_at _ _ _ rfl)]
  simp [List.getD_eq_getElem?_getD, hi]
theorem u8s_cells {w : World} {B g n cap : Nat} {xs : List Nat} (h : w.ownsRow B 5 1 (.slice (some ⟨g, 0, none⟩) n cap) xs.length (u8s xs)) : bytesAt w g 0 xs.length (fun i => xs.getD i 0) := fun i hi => by
  have := h.cells (g := g) rfl i (.int .u8 (xs[i] : Nat)) (by simp [u8s, hi])
  have ha : ((⟨g, 0, none⟩ : Addr).add i) = ⟨g, 0 + i, none⟩ := by simp [Addr.add]; exact fun h => h.symm
  rw [ha] at this
  rw [this]
  show some (Value.int .u8 (xs[i] : Nat)) = some (Value.int .u8 ((xs.getD i 0 : Nat) : Int))
  rw [show xs.getD i 0 = xs[i] by simp [List.getD_eq_getElem?_getD, hi]]
theorem getD_byte {xs : List Nat} (hg : ∀ x ∈ xs, x < 256) (i : Nat) : xs.getD i 0 < 256 := by
  rw [List.getD_eq_getElem?_getD]
  cases h : xs[i]? with
  | none => simp
  | some x => exact hg x (List.mem_of_getElem? h)
theorem crcL_lt (xs : List Nat) : crcL xs < 4294967296 := (~~~bytesP _ xs.length).isLt
theorem own4 {w : World} {B n c : Nat} {v : Value} {xs : List Nat} (h : w.ownsRow B 5 1 v (n + 4) (u8s xs ++ u8s (bytes4 c))) (hn : xs.length = n) : OwnB w B v (xs ++ bytes4 c) := by
  refine OwnB.of ?_ (by simp [bytes4])
  rw [u8s_append, List.length_append, hn]
  exact h
theorem encN_byte : ∀ (n q : Nat), q ≤ n → ∀ x ∈ encN q, x < 256
  | n, q, hq, x, hx => by
    by_cases h : 128 ≤ q
    · rw [encN_more h] at hx
      rcases List.mem_cons.1 hx with rfl | hx
      · omega
      · match n, hq with
        | 0, hq => omega
        | n + 1, hq => exact encN_byte n (q / 128) (by omega) x hx
    · rw [encN_last h] at hx
      simp at hx
      omega
theorem encs_byte {f : Int → List Nat} (hf : ∀ z, ∀ x ∈ f z, x < 256) (zs : List Int) : ∀ x ∈ encs f zs, x < 256 := fun x hx => by
  unfold encs at hx
  obtain ⟨l, hl, hx⟩ := List.mem_flatten.1 hx
  obtain ⟨z, _, rfl⟩ := List.mem_map.1 hl
  exact hf z x hx
theorem encU_byte (z : Int) : ∀ x ∈ encU z, x < 256 := encN_byte _ _ (Nat.le_refl _)
theorem encS_byte (z : Int) : ∀ x ∈ encS z, x < 256 := encN_byte _ _ (Nat.le_refl _)
theorem app_byte {a b : List Nat} (ha : ∀ x ∈ a, x < 256) (hb : ∀ x ∈ b, x < 256) : ∀ x ∈ a ++ b, x < 256 := fun x hx => (List.mem_append.1 hx).elim (ha x) (hb x)
theorem encPs_byte : ∀ (l : Int) (P : List Pt), ∀ x ∈ encPs l P, x < 256
  | _, [] => fun x hx => by simp [encPs] at hx
  | l, p :: P => app_byte (app_byte (app_byte (encs_byte encU_byte _) (encs_byte encS_byte _)) (encs_byte encU_byte _)) (encPs_byte p.id P)
end Go.Proofs.Ytpablkmdpoombaa

/- EncR -/
namespace Go.Proofs.Ytpablkmdpoombaa
open Go.RowKit

set_option maxRecDepth 100000 in
theorem big4_any (c : Nat) (w : World) (hc : c < 4294967296) :
    Calls Try.prog 76 #[.int .u64 c, .int .i64 4] w fun e w' => (∃ g, e = .returned (.slice (some ⟨g, 0, none⟩) 4 4) ∧ w.heap.size ≤ g ∧ w'.heap[g]? = some (.cells #[.int .u8 ((c / 16777216 % 256 : Nat) : Int), .int .u8 ((c / 65536 % 256 : Nat) : Int), .int .u8 ((c / 256 % 256 : Nat) : Int), .int .u8 ((c % 256 : Nat) : Int)] 5)) ∧ Below w.heap.size w w' := by
  obtain ⟨i0, hi, hz0, hz1, hz2⟩ := info_parts info5
  have HI := hid hi
  have HZ0 := hid hz0
  have HZ1 := hid hz1
  have HZ2 := hid hz2
  clear hi hz0 hz1 hz2
  go_enter Try.func76, Try.ntmps76
  have HM := hid (show madeCells #[Value.int .u8 0] 4 = #[.int .u8 0, .int .u8 0, .int .u8 0, .int .u8 0] by kernel_rfl)
  go_wp2_with (refine wpList_make_lc _ rfl (.tmp 7) (.tmp 7) 24 rfl 5 i0 (.int .u8 0) Try.underlying24 HI.out HZ0.out HZ1.out rfl .i64 .i64 _ _ 4 4 rfl rfl (by omega) (by omega) (by omega) (by rw [HZ2.out]; omega) (by omega) ?_; rw [HM.out])
  refine wp_loop_rounds 5 ?_
  rw [rounds_succ]
  go_wp2_with fail
  rw [rounds_succ]
  go_wp2_with fail
  rw [rounds_succ]
  go_wp2_with fail
  rw [rounds_succ]
  go_wp2_with fail
  rw [rounds_succ]
  go_wp2_with fail
  go_ret
  have e1 : ((c / 16777216 % 256 : Nat) : Int) = (c : Int) / 256 / 256 / 256 % 256 := by omega
  have e2 : ((c / 65536 % 256 : Nat) : Int) = (c : Int) / 256 / 256 % 256 := by omega
  have e3 : ((c / 256 % 256 : Nat) : Int) = (c : Int) / 256 % 256 := by omega
  have e4 : ((c % 256 : Nat) : Int) = (c : Int) % 256 := by omega
  rw [e1, e2, e3, e4]
  exact ⟨⟨_, rfl, Nat.le_refl _, heap_alloc_at _ _ _ rfl⟩, (Below.refl _ _).alloc (Nat.le_refl _) _⟩
theorem four_row {w : World} {c g : Nat} (h : w.heap[g]? = some (.cells #[.int .u8 ((c / 16777216 % 256 : Nat) : Int), .int .u8 ((c / 65536 % 256 : Nat) : Int), .int .u8 ((c / 256 % 256 : Nat) : Int), .int .u8 ((c % 256 : Nat) : Int)] 5)) :
    ∀ (j : Nat) (u : Value), (u8s (bytes4 c))[j]? = some u → w.cell? ((⟨g, 0, none⟩ : Addr).add j) = some u := by
  intro j u hj
  have ha : ((⟨g, 0, none⟩ : Addr).add j) = ⟨g, j, none⟩ := by simp [Addr.add]; exact fun h => h.symm
  rw [ha, cell_row h, ← hj]
  simp [u8s, bytes4]
set_option maxRecDepth 100000 in
theorem rClosed_any (B : Nat) (v : Value) (xs : List Nat) (w : World) (ho : OwnB w B v xs) (hB : B ≤ w.heap.size) (hp : 0 < xs.length) (hx : xs.length ≤ 900000) (hg : ∀ x ∈ xs, x < 256) :
    Calls Try.prog 40 #[v] w fun e w' => (∃ v', e = .returned v' ∧ OwnB w' B v' (xs ++ bytes4 (crcL xs))) ∧ Below B w w' := by
  have HO := hid ho
  rcases ho.cases with ⟨rfl, rfl⟩ | ⟨g, cap, rfl, hgB, _⟩
  · cases hp
  obtain ⟨i0, hi, hz0, hz1, hz2⟩ := info_parts info5
  have HI := hid hi
  have HZ0 := hid hz0
  have HZ1 := hid hz1
  have HZ2 := hid hz2
  have HS := hid (rSum_any g 0 xs.length cap (fun i => xs.getD i 0) w (by omega) (getD_byte hg) (u8s_cells ho.1))
  have HCB := hid (crcL_lt xs)
  have HCL := hid (show crcV (fun i => xs.getD i 0) xs.length = crcL xs from rfl)
  rw [HCL.out] at HS
  generalize crcL xs = c at *
  obtain ⟨n, hnx⟩ : ∃ n, xs.length = n := ⟨_, rfl⟩
  have HNX := hid hnx
  have HO1 := hid ho.1
  rw [hnx] at HS HO1 hp hx
  clear hnx ho hi hz0 hz1 hz2 hg
  have hcb := HCB.out
  go_enter Try.func40, Try.ntmps40
  rw [HNX.out]
  go_wp2_with fail
  refine HS.out.mono ?_
  rintro r w1 ⟨rfl, rfl⟩
  go_wp2_with fail
  refine (big4_any c w HCB.out).mono ?_
  rintro r w2 ⟨⟨g2, rfl, hg2, hr2⟩, hb2⟩
  have HB2 := hid hb2
  have HO2 := hid (HO1.out.kept (w' := w2) (row := none) ⟨hb2.os, hb2.tape, hb2.output, hb2.size, fun k hk _ => hb2.block k hk⟩ (by simp [Value.ownBlock]))
  have HN2 := hid (four_row (c := c) hr2)
  have hz2 := hb2.size
  clear hb2 hr2
  go_wp2_with (at_builtin; refine wpList_append_own _ rfl (.tmp 3) (.tmp 7) 24 rfl B 5 i0 (.int .u8 0) 1 1 Try.underlying24 HI.out HZ0.out HZ1.out HZ2.out rfl (by decide) _ n (u8s xs) rfl HO2.out ⟨g2, 0, none⟩ 4 4 (u8s (bytes4 c)) rfl rfl HN2.out (u8s_one _) (by unfold maxLen; omega) (by omega) (by omega) ?_; intro v' w3 hown3 hgrow3 hnil3; have HO3 := hid (own4 (c := c) hown3 HNX.out); have HB3 := hid ((HB2.out.mono hB).grown hgrow3 (by omega) (fun k hk => by have h1 : g = k := Option.some.inj hk; omega)); clear hown3 hgrow3 hnil3)
  go_ret
  exact ⟨⟨_, rfl, HO3.out⟩, HB3.out⟩
set_option maxRecDepth 100000 in
set_option maxHeartbeats 3200000 in
theorem rPoints_any (B : Nat) (bv v : Value) (P : List Pt) (xs : List Nat) (w : World) (ho : OwnB w B bv xs) (hB : B ≤ w.heap.size) (hx : xs.length ≤ 1000) (hp : PtsV w v P) (hP : NumsOk P) (hl : P.length ≤ 1024) :
    Calls Try.prog 41 #[bv, v] w fun e w' => (∃ v', e = .returned v' ∧ OwnB w' B v' (xs ++ encPs 0 P)) ∧ Below w.heap.size w w' := by
  have HN := hid hP
  obtain ⟨a, cap, rfl, hpd⟩ := hp
  obtain ⟨n, hnl⟩ : ∃ n, n = P.length := ⟨_, rfl⟩
  have HPD := hid hpd
  have HO := hid ho
  have HNL := hid hnl
  have hl1 : n ≤ 1024 := by omega
  rw [← hnl]
  obtain ⟨pb, nb, cb, rfl⟩ := ho.shape
  clear hP hpd ho hnl
  go_enter Try.func41, Try.ntmps41
  go_wp2_with fail
  go_loopw [0, 5, 12] (fun bv lv i wr => ∃ k : Nat, k ≤ n ∧ i = .int .i64 (k : Int) ∧ lv = .int .i64 (endL 0 (P.take k)) ∧ OwnB wr B bv (xs ++ encPs 0 (P.take k)) ∧ Below w.heap.size w wr) (fun _ _ i _ => n - (intOf i).toNat)
  case atStart => exact ⟨0, by omega, rfl, rfl, by simpa [encPs] using HO.out, Below.refl _ _⟩
  case round =>
    obtain ⟨k, hk, rfl, rfl, ho2, hb2⟩ := hrel
    have HO2 := hid ho2
    have HB2 := hid hb2
    have hz2 := hb2.size
    clear hb2 ho2
    by_cases hlt : k < n
    · obtain ⟨p, hpk⟩ : ∃ p, P[k]? = some p := ⟨_, List.getElem?_eq_getElem (by rw [← HNL.out]; exact hlt)⟩
      have hne0 : P ≠ [] := fun e => by subst e; simp at hpk
      obtain ⟨b, off, rfl, hbw, hrows⟩ := HPD.out.resolve_left hne0
      have hnm := HN.out k p hpk
      have HLEN := hid (show (xs ++ encPs 0 (P.take k)).length ≤ 90000 by
        have h1 := encPs_len HN.out k (by rw [← HNL.out]; omega)
        simp
        omega)
      have HEN := hid (endL_snoc 0 p (P.take k))
      have HES := hid (show xs ++ encPs 0 (P.take k ++ [p]) = xs ++ encPs 0 (P.take k) ++ encP (endL 0 (P.take k)) p by rw [encPs_snoc]; simp only [List.append_assoc])
      have HTN := hid (take_next hpk)
      have hcs : ∀ q, q < 9 → wr.cell? ⟨b, off + k * 9 + q, none⟩ = some (.int .i64 (p.f q)) := fun q hq => by
        rw [HB2.out.cell hbw, hrows k p.row (by rw [List.getElem?_map, hpk]; rfl) q hq, Pt.row_at p q hq]
      have hx1 := hnm.id
      have hx2 := hnm.i
      have hx3 := hnm.l
      have hx4 := hnm.z
      have hx5 := hnm.h
      have HNM := hid hnm
      clear hpk hrows hnm
      generalize hle : endL 0 (P.take k) = le at *
      generalize xs ++ encPs 0 (P.take k) = ys at *
      obtain ⟨p0, p1, p2, p3, p4, p5, p6, p7, p8⟩ := p
      simp only at hx1 hx2 hx3 hx4 hx5
      have a0 : wr.cell? ⟨b, off + k * 9, none⟩ = some (.int .i64 p0) := hcs 0 (by decide)
      have a1 : wr.cell? ⟨b, off + k * 9 + 1, none⟩ = some (.int .i64 p1) := hcs 1 (by decide)
      have a2 : wr.cell? ⟨b, off + k * 9 + 2, none⟩ = some (.int .i64 p2) := hcs 2 (by decide)
      have a3 : wr.cell? ⟨b, off + k * 9 + 3, none⟩ = some (.int .i64 p3) := hcs 3 (by decide)
      have a4 : wr.cell? ⟨b, off + k * 9 + 4, none⟩ = some (.int .i64 p4) := hcs 4 (by decide)
      have a5 : wr.cell? ⟨b, off + k * 9 + 5, none⟩ = some (.int .i64 p5) := hcs 5 (by decide)
      have a6 : wr.cell? ⟨b, off + k * 9 + 6, none⟩ = some (.int .i64 p6) := hcs 6 (by decide)
      have a7 : wr.cell? ⟨b, off + k * 9 + 7, none⟩ = some (.int .i64 p7) := hcs 7 (by decide)
      have a8 : wr.cell? ⟨b, off + k * 9 + 8, none⟩ = some (.int .i64 p8) := hcs 8 (by decide)
      have hq1 := HNM.out.x
      have hq2 := HNM.out.y
      have hq3 := HNM.out.wd
      have hq4 := HNM.out.nm
      have hq5 := HNM.out.of
      have hq6 := HNM.out.cl
      simp only at hq1 hq2 hq3 hq4 hq5 hq6
      have HL1 := hid (encs_len (f := encU) (m := 9) [p0 - le] (fun z hz => nat_len (by simp at hz; omega)))
      have HL2 := hid (zig_len (z := p1) (by omega))
      have HL3 := hid (zig_len (z := p2) (by omega))
      clear hcs
      go_wp2_with fail
      clear a0 a1 a2 a3 a4 a5 a6 a7 a8
      refine (rNumbers_own (B := B) (lb := wr.heap.size + 1) (lo := 0) (lc := 1) (m := 1) (zs := [p0 - le]) (xs := ys) (HO2.out.grow (by repeat' (first | (with_reducible exact Below.refl _ _) | (with_reducible assumption) | (with_reducible refine Below.alloc ?_ ?_ _) | (with_reducible refine Below.drew ?_) | (with_reducible refine below_drewN ?_ _) | go_size))) (by simp; omega) (by have := HLEN.out; omega) (by simp; omega) rfl (by omega) (row_new (zs := [p0 - le]) (by simp) rfl rfl) (by simp)).mono ?_
      rintro r w3 ⟨⟨v3, rfl, ho3⟩, hb3⟩
      have HO3 := hid ho3
      have HB3 := hid ((show Below wr.heap.size wr _ from (by repeat' (first | (with_reducible exact Below.refl _ _) | (with_reducible assumption) | (with_reducible refine Below.alloc ?_ ?_ _) | (with_reducible refine Below.drew ?_) | (with_reducible refine below_drewN ?_ _) | go_size))).trans (hb3.mono (by simp; omega)))
      have HP3 := hid (show w3.heap[wr.heap.size]? = some (.cells #[.int .i64 p0, .int .i64 p1, .int .i64 p2, .int .i64 p3, .int .i64 p4, .int .i64 p5, .int .i64 p6, .int .i64 p7, .int .i64 p8] 78) from heap_still hb3 (heap_alloc_past _ _ _ _ (heap_alloc_at _ _ _ rfl)))
      have hz3 := hb3.size
      simp at hz3
      clear ho3 hb3
      have w3c0 : w3.cell? ⟨wr.heap.size, 0, none⟩ = some (.int .i64 p0) := (cell_row (j := 0) HP3.out).trans rfl
      have w3c1 : w3.cell? ⟨wr.heap.size, 1, none⟩ = some (.int .i64 p1) := (cell_row (j := 1) HP3.out).trans rfl
      have w3c2 : w3.cell? ⟨wr.heap.size, 2, none⟩ = some (.int .i64 p2) := (cell_row (j := 2) HP3.out).trans rfl
      have w3c3 : w3.cell? ⟨wr.heap.size, 3, none⟩ = some (.int .i64 p3) := (cell_row (j := 3) HP3.out).trans rfl
      have w3c4 : w3.cell? ⟨wr.heap.size, 4, none⟩ = some (.int .i64 p4) := (cell_row (j := 4) HP3.out).trans rfl
      have w3c5 : w3.cell? ⟨wr.heap.size, 5, none⟩ = some (.int .i64 p5) := (cell_row (j := 5) HP3.out).trans rfl
      have w3c6 : w3.cell? ⟨wr.heap.size, 6, none⟩ = some (.int .i64 p6) := (cell_row (j := 6) HP3.out).trans rfl
      have w3c7 : w3.cell? ⟨wr.heap.size, 7, none⟩ = some (.int .i64 p7) := (cell_row (j := 7) HP3.out).trans rfl
      have w3c8 : w3.cell? ⟨wr.heap.size, 8, none⟩ = some (.int .i64 p8) := (cell_row (j := 8) HP3.out).trans rfl
      go_wp2_with fail
      clear w3c0 w3c1 w3c2 w3c3 w3c4 w3c5 w3c6 w3c7 w3c8
      have HC := hid (row_new (w := w3) (zs := [p1, p2, p3]) (cs := #[.int .i64 p1, .int .i64 p2, .int .i64 p3]) rfl rfl (m := 3) rfl)
      have HB4 := hid (show Below wr.heap.size wr (w3.alloc (.cells #[.int .i64 p1, .int .i64 p2, .int .i64 p3] 3)) from HB3.out.alloc (by omega) _)
      have HO4 := hid (HO3.out.grow ((Below.refl w3.heap.size w3).alloc (Nat.le_refl _) (.cells #[.int .i64 p1, .int .i64 p2, .int .i64 p3] 3)))
      have HP4 := hid (heap_alloc_past w3 (.cells #[.int .i64 p1, .int .i64 p2, .int .i64 p3] 3) _ _ HP3.out)
      have hz4 : (w3.alloc (.cells #[.int .i64 p1, .int .i64 p2, .int .i64 p3] 3)).heap.size = w3.heap.size + 1 := by simp
      generalize w3.alloc (.cells #[.int .i64 p1, .int .i64 p2, .int .i64 p3] 3) = w4 at *
      have m0 : w4.cell? ⟨w3.heap.size, 0, none⟩ = some (.int .i64 p1) := HC.out 0 (by decide)
      have m1 : w4.cell? ⟨w3.heap.size, 1, none⟩ = some (.int .i64 p2) := HC.out 1 (by decide)
      have m2 : w4.cell? ⟨w3.heap.size, 2, none⟩ = some (.int .i64 p3) := HC.out 2 (by decide)
      clear HB3 HO3 HP3 HC
      refine wp_loop_rounds 4 ?_
      rw [rounds_succ]
      go_wp2_with fail
      refine (rSigned_own (HO4.out.base (Nat.zero_le _)) (by have := HLEN.out; have := HL1.out; simp at this ⊢; omega) (by omega)).mono ?_
      rintro r w5 ⟨⟨v5, rfl, ho5⟩, hb5⟩
      have HO5 := hid ho5
      have HB5 := hid (HB4.out.trans (hb5.mono HB4.out.size))
      have HP5 := hid (heap_still hb5 HP4.out)
      have n1 : w5.cell? ⟨w3.heap.size, 1, none⟩ = some (.int .i64 p2) := by rw [hb5.cell (by simp; omega)]; exact m1
      have n2 : w5.cell? ⟨w3.heap.size, 2, none⟩ = some (.int .i64 p3) := by rw [hb5.cell (by simp; omega)]; exact m2
      have hz5 := hb5.size
      clear ho5 hb5 m0 m1 m2 HO4 HB4 HP4
      go_wp2_with fail
      rw [rounds_succ]
      go_wp2_with fail
      refine (rSigned_own (HO5.out.base (Nat.zero_le _)) (by have := HLEN.out; have := HL1.out; have := HL2.out; simp at * ; omega) (by omega)).mono ?_
      rintro r w6 ⟨⟨v6, rfl, ho6⟩, hb6⟩
      have HO6 := hid ho6
      have HB6 := hid (HB5.out.trans (hb6.mono HB5.out.size))
      have HP6 := hid (heap_still hb6 HP5.out)
      have k2 : w6.cell? ⟨w3.heap.size, 2, none⟩ = some (.int .i64 p3) := by rw [hb6.cell (by simp; omega)]; exact n2
      have hz6 := hb6.size
      clear ho6 hb6 n1 n2 HO5 HB5 HP5
      go_wp2_with fail
      rw [rounds_succ]
      go_wp2_with fail
      refine (rSigned_own (HO6.out.base (Nat.zero_le _)) (by have := HLEN.out; have := HL1.out; have := HL2.out; have := HL3.out; simp at * ; omega) (by omega)).mono ?_
      rintro r w7 ⟨⟨v7, rfl, ho7⟩, hb7⟩
      have HO7 := hid ho7
      have HB7 := hid (HB6.out.trans (hb7.mono HB6.out.size))
      have HP7 := hid (heap_still hb7 HP6.out)
      have hz7 := hb7.size
      clear ho7 hb7 k2 HO6 HB6 HP6
      go_wp2_with fail
      rw [rounds_succ]
      have w7c0 : w7.cell? ⟨wr.heap.size, 0, none⟩ = some (.int .i64 p0) := (cell_row (j := 0) HP7.out).trans rfl
      have w7c1 : w7.cell? ⟨wr.heap.size, 1, none⟩ = some (.int .i64 p1) := (cell_row (j := 1) HP7.out).trans rfl
      have w7c2 : w7.cell? ⟨wr.heap.size, 2, none⟩ = some (.int .i64 p2) := (cell_row (j := 2) HP7.out).trans rfl
      have w7c3 : w7.cell? ⟨wr.heap.size, 3, none⟩ = some (.int .i64 p3) := (cell_row (j := 3) HP7.out).trans rfl
      have w7c4 : w7.cell? ⟨wr.heap.size, 4, none⟩ = some (.int .i64 p4) := (cell_row (j := 4) HP7.out).trans rfl
      have w7c5 : w7.cell? ⟨wr.heap.size, 5, none⟩ = some (.int .i64 p5) := (cell_row (j := 5) HP7.out).trans rfl
      have w7c6 : w7.cell? ⟨wr.heap.size, 6, none⟩ = some (.int .i64 p6) := (cell_row (j := 6) HP7.out).trans rfl
      have w7c7 : w7.cell? ⟨wr.heap.size, 7, none⟩ = some (.int .i64 p7) := (cell_row (j := 7) HP7.out).trans rfl
      have w7c8 : w7.cell? ⟨wr.heap.size, 8, none⟩ = some (.int .i64 p8) := (cell_row (j := 8) HP7.out).trans rfl
      go_wp2_with fail
      clear w7c0 w7c1 w7c2 w7c3 w7c4 w7c5 w7c6 w7c7 w7c8
      refine (rNumbers_own (B := B) (lb := w7.heap.size) (lo := 0) (lc := 5) (m := 5) (zs := [p4 - p3, p5, p6, p7, p8]) ((HO7.out.base (by omega)).grow (by repeat' (first | (with_reducible exact Below.refl _ _) | (with_reducible assumption) | (with_reducible refine Below.alloc ?_ ?_ _) | (with_reducible refine Below.drew ?_) | (with_reducible refine below_drewN ?_ _) | go_size))) (by simp; omega) (by have := HLEN.out; have := HL1.out; have := HL2.out; have := HL3.out; have := zig_len (z := p3) (by omega); simp at *; omega) (by simp; omega) rfl (by omega) (row_new (zs := [p4 - p3, p5, p6, p7, p8]) rfl rfl rfl) (by simp)).mono ?_
      rintro r w8 ⟨⟨v8, rfl, ho8⟩, hb8⟩
      have HO8 := hid ho8
      have HB8 := hid (HB2.out.trans ((HB7.out.trans ((show Below wr.heap.size w7 _ from (Below.refl _ _).alloc (by omega) _).trans (hb8.mono (by simp; omega)))).mono hz2))
      have HP8 := hid (show w8.heap[wr.heap.size]? = some (.cells #[.int .i64 p0, .int .i64 p1, .int .i64 p2, .int .i64 p3, .int .i64 p4, .int .i64 p5, .int .i64 p6, .int .i64 p7, .int .i64 p8] 78) from heap_still hb8 (heap_alloc_past _ _ _ _ HP7.out))
      clear ho8 hb8
      have w8c0 : w8.cell? ⟨wr.heap.size, 0, none⟩ = some (.int .i64 p0) := (cell_row (j := 0) HP8.out).trans rfl
      go_wp2_with fail
      refine ⟨⟨k + 1, by omega, by go_num, by rw [HTN.out, HEN.out], ?_, HB8.out⟩, by simp [intOf]; omega⟩
      rw [HTN.out, HES.out]
      have := HO8.out
      unfold encP
      simp only [encs, List.map_cons, List.map_nil, List.flatten_cons, List.flatten_nil, List.append_nil, List.append_assoc, encS] at this ⊢
      exact this
    · obtain rfl : k = n := by omega
      have HF := hid (show xs ++ encPs 0 (P.take k) = xs ++ encPs 0 P by rw [List.take_of_length_le (Nat.le_of_eq HNL.out.symm)])
      have d1 : decide ((k : Int) < (k : Int)) = false := by simp
      go_wp2_with fail
      go_ret
      rw [← HF.out]
      exact ⟨⟨_, rfl, HO2.out⟩, HB2.out⟩
end Go.Proofs.Ytpablkmdpoombaa

/- DecM -/
namespace Go.Proofs.Ytpablkmdpoombaa
open Go.RowKit

theorem nextU_range (s : St) : 0 ≤ (nextS false s).1 ∧ (nextS false s).1 ≤ 4611686018427387903 := by
  have h := readV_bd s.g s.m
  unfold nextS
  simp only [Bool.false_eq_true, if_false]
  split
  · exact h
  · exact ⟨Int.le_refl _, show (0 : Int) ≤ _ by decide⟩
theorem nextI_range (s : St) : -2305843009213693952 ≤ (nextS true s).1 ∧ (nextS true s).1 ≤ 2305843009213693951 := by
  have h := readV_bd s.g s.m
  unfold nextS
  simp only [if_true]
  split
  · unfold signV
    split
    · split <;> simp only <;> omega
    · simp only; omega
  · show -2305843009213693952 ≤ (0 : Int) ∧ (0 : Int) ≤ 2305843009213693951
    omega
def St.mark (s : St) : St := ⟨s.g, s.m, true⟩
/-- one point read by the reference -/
def ptR (l : Int) (s : St) : Pt × St :=
  let r0 := nextS false s
  let s1 := if 1152921504606846976 < r0.1 then r0.2.mark else r0.2
  let r1 := nextS true s1
  let r2 := nextS true r1.2
  let r3 := nextS true r2.2
  let r4 := nextS false r3.2
  let s5 := if r3.1 < -268435456 ∨ 268435456 < r3.1 ∨ 536870912 < r4.1 ∨ 1152921504606846976 < l + r0.1 then r4.2.mark else r4.2
  let r5 := nextS false s5
  let r6 := nextS false r5.2
  let r7 := nextS false r6.2
  let r8 := nextS false r7.2
  (⟨l + r0.1, r1.1, r2.1, r3.1, r3.1 + r4.1, r5.1, r6.1, r7.1, r8.1⟩, r8.2)
def ptsR : Nat → Int → St → List Pt × St
  | 0, _, s => ([], s)
  | f + 1, l, s => if s.bad = true then ([], s) else ((ptR l s).1 :: (ptsR f (ptR l s).1.id (ptR l s).2).1, (ptsR f (ptR l s).1.id (ptR l s).2).2)
theorem ptsR_bad (f : Nat) (l : Int) (s : St) (h : s.bad = true) : ptsR f l s = ([], s) := by
  cases f with
  | zero => rfl
  | succ f => unfold ptsR; rw [if_pos h]
theorem ptsR_next {f : Nat} {l : Int} {s : St} {p : Pt} {s' : St} (h : s.bad = false) (hp : ptR l s = (p, s')) : ptsR (f + 1) l s = (p :: (ptsR f p.id s').1, (ptsR f p.id s').2) := by
  show (if s.bad = true then _ else _) = _
  rw [if_neg (by simp [h]), hp]
theorem nextS_keeps (sg : Bool) (s : St) (h : s.bad = true) : (nextS sg s).2.bad = true := by
  rw [nextS_bad (by simp [h])]

theorem rnum_at {rb b : Nat} {s s' : St} {v : Int} (w : World) (hn : nextS false s = (v, s')) (h : RdAt w rb 96 b s) :
    Calls Try.prog 46 #[.pointer (some ⟨rb, 0, none⟩), .bool false] w fun r w' => r = .returned (.int .i64 v) ∧ RdAt w' rb 96 b s' ∧ Only rb w.heap.size w w' := by
  have := next_number rb b s w h
  rw [hn] at this; exact this
theorem rsig_at {rb b : Nat} {s s' : St} {v : Int} (w : World) (hn : nextS true s = (v, s')) (h : RdAt w rb 96 b s) :
    Calls Try.prog 46 #[.pointer (some ⟨rb, 0, none⟩), .bool true] w fun r w' => r = .returned (.int .i64 v) ∧ RdAt w' rb 96 b s' ∧ Only rb w.heap.size w w' := by
  have := next_signed rb b s w h
  rw [hn] at this; exact this
theorem Only.alloc {rb B : Nat} {w W : World} (h : Only rb B w W) (hB : B ≤ W.heap.size) (o : Obj) : Only rb B w (W.alloc o) := by
  refine ⟨h.os, h.tape, h.output, by have := h.size; simp; omega, fun k hk hne => ?_⟩
  rw [Below.heap_alloc W o k (by omega)]
  exact h.block k hk hne
theorem Only.set {rb B g j : Nat} {w W : World} (h : Only rb B w W) (hB : B ≤ g) (v : Value) : Only rb B w (W.setCell ⟨g, j, none⟩ v) := by
  refine ⟨h.os, h.tape, h.output, by simpa using h.size, fun k hk hne => ?_⟩
  rw [Below.heap_setCell W ⟨g, j, none⟩ v k (by show k ≠ g; omega)]
  exact h.block k hk hne
theorem RdAt.same {w w' : World} {rb ty b : Nat} {s : St} (h : RdAt w rb ty b s) (h1 : w'.heap[rb]? = w.heap[rb]?) (h2 : w'.heap[b]? = w.heap[b]?) (h3 : w.heap.size ≤ w'.heap.size) : RdAt w' rb ty b s := by
  obtain ⟨o, c, hr, hm, hc, hb, hne, hg, hbw⟩ := h
  refine ⟨o, c, h1.trans hr, hm, hc, fun i hi => ?_, hne, hg, by omega⟩
  rw [World.cell?_of_block (w := w) (w' := w') (a := ⟨b, o + i, none⟩) h2]
  exact hb i hi
theorem RdAt.rb_lt {w : World} {rb ty b : Nat} {s : St} (h : RdAt w rb ty b s) : rb < w.heap.size := by
  obtain ⟨o, c, hr, _⟩ := h
  exact (Array.getElem?_eq_some_iff.1 hr).1
theorem RdAt.b_lt {w : World} {rb ty b : Nat} {s : St} (h : RdAt w rb ty b s) : b < w.heap.size := by
  obtain ⟨o, c, hr, hm, hc, hb, hne, hg, hbw⟩ := h
  exact hbw
theorem RdAt.apart {w : World} {rb ty b : Nat} {s : St} (h : RdAt w rb ty b s) : rb ≠ b := by
  obtain ⟨o, c, hr, hm, hc, hb, hne, hg, hbw⟩ := h
  exact hne
theorem RdAt.alloc {w : World} {rb ty b : Nat} {s : St} (h : RdAt w rb ty b s) (o : Obj) : RdAt (w.alloc o) rb ty b s :=
  h.same (Below.heap_alloc w o rb h.rb_lt) (Below.heap_alloc w o b h.b_lt) (by simp)
theorem RdAt.grow {w w' : World} {rb ty b : Nat} {s : St} (h : RdAt w rb ty b s) (hb : Below w.heap.size w w') : RdAt w' rb ty b s :=
  h.same (hb.block rb h.rb_lt) (hb.block b h.b_lt) hb.size
theorem RdAt.set {w : World} {rb ty b g j : Nat} {s : St} (h : RdAt w rb ty b s) (h1 : rb ≠ g) (h2 : b ≠ g) (v : Value) : RdAt (w.setCell ⟨g, j, none⟩ v) rb ty b s :=
  h.same (Below.heap_setCell w ⟨g, j, none⟩ v rb h1) (Below.heap_setCell w ⟨g, j, none⟩ v b h2) (by simp)
theorem heap_set_other {w : World} {g j n : Nat} {x : Obj} (h : w.heap[n]? = some x) (hne : n ≠ g) (v : Value) : (w.setCell ⟨g, j, none⟩ v).heap[n]? = some x := by
  rw [Below.heap_setCell w ⟨g, j, none⟩ v n hne]; exact h
theorem RdAt.flag {w : World} {rb ty b : Nat} {s : St} (h : RdAt w rb ty b s) : w.cell? ⟨rb, 1, none⟩ = some (.bool s.bad) ∧ w.frozen? ⟨rb, 1, none⟩ = false := by
  obtain ⟨o, c, hr, _⟩ := h
  exact ⟨(cell_row (j := 1) hr).trans rfl, by simp [World.frozen?, hr]⟩
theorem RdAt.mark {w : World} {rb ty b : Nat} {s : St} (h : RdAt w rb ty b s) : RdAt (w.setCell ⟨rb, 1, none⟩ (.bool true)) rb ty b s.mark := by
  obtain ⟨o, c, hr, hm, hc, hb, hne, hg, hbw⟩ := h
  refine ⟨o, c, heap_setCell hr _, hm, hc, fun i hi => ?_, hne, hg, by simpa using hbw⟩
  rw [World.cell?_of_block (w := w) (w' := w.setCell ⟨rb, 1, none⟩ (.bool true)) (a := ⟨b, o + i, none⟩) (Below.heap_setCell w ⟨rb, 1, none⟩ _ b (fun e => hne e.symm))]
  exact hb i hi
theorem OwnP.only {w w' : World} {rb B base : Nat} {v : Value} {l : List Pt} (h : OwnP w base v l) (ho : Only rb B w w') (hB : w.heap.size ≤ B) (hb : rb < base) : OwnP w' base v l := by
  refine OwnR.heap h fun g x hx hg => ?_
  rw [ho.block g (by have := (Array.getElem?_eq_some_iff.1 hx).1; omega) (by omega)]
  exact hx

end Go.Proofs.Ytpablkmdpoombaa

/- DecX -/
namespace Go.Proofs.Ytpablkmdpoombaa
open Go.RowKit

theorem wide9d (p0 p1 p2 p3 p4 p5 p6 p7 p8 : Int) : Wide 9 [[Value.int .i64 p0, .int .i64 p1, .int .i64 p2, .int .i64 p3, .int .i64 p4, .int .i64 p5, .int .i64 p6, .int .i64 p7, .int .i64 p8]] := Wide.one rfl (Pt.row_one ⟨p0, p1, p2, p3, p4, p5, p6, p7, p8⟩)
theorem RdAt.kept {w w' : World} {rb ty b : Nat} {s : St} {row : Option Nat} (h : RdAt w rb ty b s) (hg : w.grownBy w' row) (h1 : some rb ≠ row) (h2 : some b ≠ row) : RdAt w' rb ty b s :=
  h.same (hg.block rb h.rb_lt h1) (hg.block b h.b_lt h2) hg.size
theorem Only.kept {rb B : Nat} {w W W' : World} {row : Option Nat} (h : Only rb B w W) (hg : W.grownBy W' row) (hB : B ≤ W.heap.size) (hr : ∀ k, row = some k → B ≤ k) : Only rb B w W' :=
  h.trans (Only.of_below (B := B) ((Below.refl B W).grown hg hB hr)) (Nat.le_refl _)
end Go.Proofs.Ytpablkmdpoombaa

/- Sum -/
namespace Go.Proofs.Ytpablkmdpoombaa
open Go.RowKit

/-- a number of four bytes, the first one the highest, bit by bit -/
def be (g : Nat → Nat) : Nat → BitVec 32
  | 0 => 0#32
  | k + 1 => (be g k <<< 8) ||| BitVec.ofNat 32 (g k)
end Go.Proofs.Ytpablkmdpoombaa

/- DecY -/
namespace Go.Proofs.Ytpablkmdpoombaa
open Go.RowKit

/-- the state of a reader before these bytes -/
def stL (l : List Nat) : St := ⟨fun i => l.getD i 0, l.length, false⟩
/-- the last four bytes are the checksum of the others -/
def SumOk (l : List Nat) (n : Nat) : Prop := (be (fun i => l.getD (n + i) 0) 4).toNat = crcV (fun i => l.getD i 0) n
instance (l : List Nat) (n : Nat) : Decidable (SumOk l n) := inferInstanceAs (Decidable (_ = _))
theorem rd_start {w : World} {b rb off n cap : Nat} {ty : TypeId} {l : List Nat} (hb : bytesAt w b off l.length (fun i => l.getD i 0)) (hl : ∀ x ∈ l, x < 256) (hn : n ≤ l.length) (hnc : n ≤ cap) (hc : cap ≤ 9223372036854775807) (hbw : b < w.heap.size) (hr : w.heap[rb]? = some (.cells #[.slice (some ⟨b, off, none⟩) n cap, .bool false] ty)) (hne : rb ≠ b) :
    RdAt w rb ty b (stL (l.take n)) := by
  have h1 : (l.take n).length = n := by rw [List.length_take]; omega
  refine ⟨off, cap, by unfold stL; simp only [h1]; exact hr, by unfold stL; simp only [h1]; exact hnc, hc, ?_, hne, fun i => getD_byte (fun x hx => hl x (List.mem_of_mem_take hx)) i, hbw⟩
  intro i hi
  have hi' : i < n := by unfold stL at hi; simp only [h1] at hi; exact hi
  have h2 := hb i (by omega)
  rw [h2]
  show some (Value.int .u8 ((l.getD i 0 : Nat) : Int)) = some (Value.int .u8 (((l.take n).getD i 0 : Nat) : Int))
  rw [List.getD_eq_getElem?_getD, List.getD_eq_getElem?_getD, List.getElem?_take_of_lt hi']
end Go.Proofs.Ytpablkmdpoombaa

