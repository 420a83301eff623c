/- The plant's Ship. (Printed by wip/gen_ship.py.) -/
import Derived.Test.YtpablkmdpoombaaByt
import Derived.Test.YtpablkmdpoombaaAidB
namespace Go.Proofs.Ytpablkmdpoombaa
open Go.RowKit Go.Sort

/-- the captured slice of bytes -/
def BxAt (w : World) (bb : Nat) (xs : List Nat) : Prop := ∃ v, w.heap[bb]? = some (.cells #[v] 24) ∧ OwnB w (bb + 1) v xs
theorem BxAt.grow {w w' : World} {bb : Nat} {xs : List Nat} (h : BxAt w bb xs) (hb : Below w.heap.size w w') : BxAt w' bb xs := by
  obtain ⟨v, hr, ho⟩ := h
  exact ⟨v, heap_still hb hr, ho.grow hb⟩
theorem BxAt.lt {w : World} {bb : Nat} {xs : List Nat} (h : BxAt w bb xs) : bb < w.heap.size := by
  obtain ⟨v, hr, _⟩ := h
  exact (Array.getElem?_eq_some_iff.1 hr).1
set_option maxRecDepth 100000 in
theorem bnum_any (bb : Nat) (z : Nat) (xs : List Nat) (w : World) (h : BxAt w bb xs) (hn : xs.length ≤ 1000000) (hz : z ≤ 4611686018427387903) :
    Calls Try.prog 33 #[.int .i64 (z : Nat), .pointer (some ⟨bb, 0, none⟩)] w fun e w' => e = .returned (.tuple #[]) ∧ BxAt w' bb (xs ++ encN z) ∧ Only bb w.heap.size w w' := by
  have hbb := h.lt
  obtain ⟨v, hr, ho⟩ := h
  have HR := hid hr
  have HC := hid (xNumber_own (w := w) (z := z) (ho.base (Nat.zero_le _)) hn hz)
  obtain ⟨p0, n0, c0', rfl⟩ := ho.shape
  have c0 : w.cell? ⟨bb, 0, none⟩ = some (.slice p0 n0 c0') := (cell_row (j := 0) hr).trans rfl
  clear hr ho hz
  go_enter Try.func33, Try.ntmps33
  go_wp2_with fail
  refine HC.out.mono ?_
  rintro r w1 ⟨⟨v', rfl, ho'⟩, hb⟩
  have HO := hid ho'
  have HR1 := hid (heap_still hb HR.out)
  have f1 : w1.frozen? ⟨bb, 0, none⟩ = false := by have hh := HR1.out; simp [World.frozen?, hh]
  have c1 : w1.cell? ⟨bb, 0, none⟩ = some (.slice p0 n0 c0') := (cell_row (j := 0) HR1.out).trans rfl
  have HOL := hid (Only.of_below (rb := bb) hb)
  have hz1 := hb.size
  obtain ⟨p1, n1, c1', rfl⟩ := ho'.shape
  clear ho' hb c0
  go_wp2_with fail
  go_end0
  exact ⟨rfl, ⟨_, heap_setCell HR1.out _, (HO.out.base (show bb + 1 ≤ w.heap.size by omega)).same (fun g hg => Below.heap_setCell w1 ⟨bb, 0, none⟩ _ g (fun e => by have h1 : g = bb := e; have := (HO.out.block hg).1; omega))⟩, only_setCell HOL.out _⟩
set_option maxRecDepth 100000 in
theorem bsig_any (bb : Nat) (z : Int) (xs : List Nat) (w : World) (h : BxAt w bb xs) (hn : xs.length ≤ 1000000) (hz : -2305843009213693952 ≤ z ∧ z ≤ 2305843009213693951) :
    Calls Try.prog 35 #[.int .i64 z, .pointer (some ⟨bb, 0, none⟩)] w fun e w' => e = .returned (.tuple #[]) ∧ BxAt w' bb (xs ++ encN (zig z)) ∧ Only bb w.heap.size w w' := by
  have hbb := h.lt
  obtain ⟨v, hr, ho⟩ := h
  have HR := hid hr
  have HC := hid (xSigned_own (w := w) (z := z) (ho.base (Nat.zero_le _)) hn hz)
  obtain ⟨p0, n0, c0', rfl⟩ := ho.shape
  have c0 : w.cell? ⟨bb, 0, none⟩ = some (.slice p0 n0 c0') := (cell_row (j := 0) hr).trans rfl
  clear hr ho hz
  go_enter Try.func35, Try.ntmps35
  go_wp2_with fail
  refine HC.out.mono ?_
  rintro r w1 ⟨⟨v', rfl, ho'⟩, hb⟩
  have HO := hid ho'
  have HR1 := hid (heap_still hb HR.out)
  have f1 : w1.frozen? ⟨bb, 0, none⟩ = false := by have hh := HR1.out; simp [World.frozen?, hh]
  have c1 : w1.cell? ⟨bb, 0, none⟩ = some (.slice p0 n0 c0') := (cell_row (j := 0) HR1.out).trans rfl
  have HOL := hid (Only.of_below (rb := bb) hb)
  have hz1 := hb.size
  obtain ⟨p1, n1, c1', rfl⟩ := ho'.shape
  clear ho' hb c0
  go_wp2_with fail
  go_end0
  exact ⟨rfl, ⟨_, heap_setCell HR1.out _, (HO.out.base (show bb + 1 ≤ w.heap.size by omega)).same (fun g hg => Below.heap_setCell w1 ⟨bb, 0, none⟩ _ g (fun e => by have h1 : g = bb := e; have := (HO.out.block hg).1; omega))⟩, only_setCell HOL.out _⟩
theorem idx84 (a b c d e : Int) (w : World) :
    (Instr.index 84 (.agg #[.int .i64 a, .int .i64 b, .int .i64 c, .int .i64 d, .int .i64 e]) (.int .i64 0)).run Try.prog w = .ok (.int .i64 a) w ∧
    (Instr.index 84 (.agg #[.int .i64 a, .int .i64 b, .int .i64 c, .int .i64 d, .int .i64 e]) (.int .i64 1)).run Try.prog w = .ok (.int .i64 b) w ∧
    (Instr.index 84 (.agg #[.int .i64 a, .int .i64 b, .int .i64 c, .int .i64 d, .int .i64 e]) (.int .i64 2)).run Try.prog w = .ok (.int .i64 c) w ∧
    (Instr.index 84 (.agg #[.int .i64 a, .int .i64 b, .int .i64 c, .int .i64 d, .int .i64 e]) (.int .i64 3)).run Try.prog w = .ok (.int .i64 d) w ∧
    (Instr.index 84 (.agg #[.int .i64 a, .int .i64 b, .int .i64 c, .int .i64 d, .int .i64 e]) (.int .i64 4)).run Try.prog w = .ok (.int .i64 e) w := by
  refine ⟨?_, ?_, ?_, ?_, ?_⟩
  all_goals simp [Instr.index, run_underlying Try.underlying84, asIntOf, go_sem]
theorem bnumI_any (bb : Nat) (z : Int) (xs : List Nat) (w : World) (h : BxAt w bb xs) (hn : xs.length ≤ 1000000) (hz : 0 ≤ z ∧ z ≤ 4611686018427387903) :
    Calls Try.prog 33 #[.int .i64 z, .pointer (some ⟨bb, 0, none⟩)] w fun e w' => e = .returned (.tuple #[]) ∧ BxAt w' bb (xs ++ encU z) ∧ Only bb w.heap.size w w' := by
  have h1 := bnum_any bb z.toNat xs w h hn (by omega)
  rw [show ((z.toNat : Nat) : Int) = z by omega] at h1
  exact h1
theorem bsigI_any (bb : Nat) (z : Int) (xs : List Nat) (w : World) (h : BxAt w bb xs) (hn : xs.length ≤ 1000000) (hz : -2305843009213693952 ≤ z ∧ z ≤ 2305843009213693951) :
    Calls Try.prog 35 #[.int .i64 z, .pointer (some ⟨bb, 0, none⟩)] w fun e w' => e = .returned (.tuple #[]) ∧ BxAt w' bb (xs ++ encS z) ∧ Only bb w.heap.size w w' := bsig_any bb z xs w h hn hz
theorem clone_list (pv : Value) (S : List Pt) (w : World) (hp : PtsV w pv S) (hn : S.length ≤ 4096) : Calls Try.prog 30 #[pv] w fun r w' => (∃ v, r = .returned v ∧ OwnP w' w.heap.size v S) ∧ Below w.heap.size w w' := by
  obtain ⟨a, cap, rfl, h⟩ := hp
  by_cases hl : S = []
  · subst hl
    exact clone_empty a cap w
  · obtain ⟨b, off, rfl, hb, hr⟩ := h.resolve_left hl
    exact clone_pts b off cap S w hn hb hr
/-- what Ship returns -/
def ShipRes (B : Nat) (S : List Pt) (r : Ending) (w' : World) : Prop :=
  (goodL S = true ∧ ∃ v L, r = .returned (.tuple #[v, .int .i64 0]) ∧ L.Perm S ∧ Asc L ∧ OwnB w' B v (encD L)) ∨ (goodL S = false ∧ r = .returned (.tuple #[.slice none 0 0, .int .i64 70]))
set_option maxRecDepth 100000 in
set_option maxHeartbeats 12800000 in
theorem xShip_any (pv : Value) (S : List Pt) (w : World) (hp : PtsV w pv S) (hS : S.length ≤ maxLen) :
    Calls Try.prog 10 #[pv] w fun e w' => ShipRes w.heap.size S e w' ∧ Below w.heap.size w w' := by
  have HG := hid (goods_any pv S w hp hS)
  have HP := hid hp
  obtain ⟨pa, pc, rfl, _⟩ := hp
  obtain ⟨n, hn⟩ : ∃ n, n = S.length := ⟨_, rfl⟩
  rw [← hn] at hS HG HP ⊢
  have HN := hid hn
  clear hn hS
  cases hg : goodL S
  · rw [hg] at HG
    have HGF := hid hg
    clear hg
    go_enter Try.func10, Try.ntmps10
    go_wp2_with fail
    refine HG.out.mono ?_
    rintro r w1 ⟨rfl, hb⟩
    go_wp2_with fail
    go_ret2
    exact ⟨Or.inr ⟨HGF.out, rfl⟩, hb⟩
  · rw [hg] at HG
    have HGT := hid hg
    have hn1 : n ≤ 1024 := by rw [HN.out]; exact ((goodL_iff S).1 hg).1
    have HID := hid (show ∀ q ∈ S, 0 ≤ q.id ∧ q.id ≤ 1152921504606846976 from fun q hq => (okP_nums (((goodL_iff S).1 hg).2.1 q hq)).1)
    clear hg
    go_enter Try.func10, Try.ntmps10
    go_wp2_with fail
    refine HG.out.mono ?_
    rintro r w1 ⟨rfl, hb⟩
    have HB1 := hid hb
    have HP1 := hid (HP.out.still hb)
    have hz1 := hb.size
    clear hb
    go_wp2_with fail
    have HCL := hid (clone_list _ S w1 HP1.out (by rw [← HN.out]; omega))
    refine HCL.out.mono ?_
    rintro r w2 ⟨⟨v2, rfl, ho2⟩, hb⟩
    have HB2 := hid (HB1.out.trans (hb.mono hz1))
    have hz2 := HB2.out.size
    have hz12 := hb.size
    have HO2 := hid ho2
    obtain ⟨a2, c2, rfl⟩ := ho2.slice
    clear ho2 hb
    rw [← HN.out]
    have HSRT := hid (psortId_any (.slice a2 S.length c2) S w1.heap.size w2 HO2.out (by rw [← HN.out]; omega) HID.out)
    rw [← HN.out] at HSRT
    go_wp2_with fail
    refine HSRT.out.mono ?_
    rintro r w3 ⟨rfl, L, hperm, hpw, ho3, hgr⟩
    have HASC := hid (asc_of hpw (goodL_perm hperm.symm HGT.out))
    have HGL := hid (goodL_perm hperm.symm HGT.out)
    have HPERM := hid hperm
    have HLN := hid (hperm.length_eq.trans HN.out.symm)
    have HO3 := hid (show OwnP w3 w1.heap.size (.slice a2 n c2) L from ho3)
    have HB3 := hid (HB2.out.grown hgr hz2 (fun k hk => by have := (OwnR.ownBlock HO2.out k (by rw [← HN.out]; exact hk)); omega))
    have hz3 := HB3.out.size
    have hz23 := hgr.size
    clear hperm hpw ho3 hgr
    have HNUM := hid (nums_ok HGL.out HASC.out)
    go_wp2_with fail
    obtain ⟨bb, hbb⟩ : ∃ bb, bb = w3.heap.size := ⟨_, rfl⟩
    rw [← hbb]
    have X3 := hid (show BxAt (w3.alloc (.cells #[.slice none 0 0] 24)) bb [] from ⟨_, heap_alloc_at _ _ _ hbb, OwnB.nil _ _⟩)
    have HOX := hid (OwnR.grow (W' := w3.alloc (.cells #[.slice none 0 0] 24)) HO3.out ((Below.refl _ _).alloc (Nat.le_refl _) _) : OwnP _ w1.heap.size (.slice a2 n c2) L)
    have HBX := hid (HB3.out.alloc hz3 (.cells #[.slice none 0 0] 24))
    have hzx : (w3.alloc (.cells #[.slice none 0 0] 24)).heap.size = bb + 1 := by simp [hbb]
    have hwb : w.heap.size ≤ bb := by omega
    have HNE := hid (show ∀ g, (Value.slice a2 n c2).ownBlock = some g → g ≠ bb from fun g hg => by
      have h1 := OwnR.lt HO3.out hg
      omega)
    clear hbb
    generalize w3.alloc (.cells #[.slice none 0 0] 24) = W3 at *
    refine (bnum_any bb n [] _ X3.out (by simp) (by omega)).mono ?_
    rintro r w4 ⟨rfl, hx, hol⟩
    have X4 := hid (show BxAt w4 bb (encs encU [(L.length : Int)] ++ encPs 0 (L.take 0)) by
      rw [HLN.out]
      simpa [encs, encU, encPs] using hx)
    have HO4 := hid hol
    have HB4 := hid (HBX.out.trans (hol.below (B := w.heap.size) hwb (by omega)))
    have hz4 := hol.size
    clear hx hol
    go_wp2_with fail
    go_loopw [8, 28] (fun lv iv W => ∃ k : Nat, k ≤ n ∧ iv = .int .i64 (k : Int) ∧ lv = .int .i64 (endL 0 (L.take k)) ∧ BxAt W bb (encs encU [(L.length : Int)] ++ encPs 0 (L.take k)) ∧ Only bb W3.heap.size W3 W ∧ Below w.heap.size w W) (fun _ iv _ => n - (intOf iv).toNat)
    case atStart => exact ⟨0, by omega, rfl, rfl, X4.out, HO4.out, HB4.out⟩
    case round =>
      obtain ⟨k, hk, rfl, rfl, hx, ho, hb⟩ := hrel
      have X5 := hid hx
      have HO5 := hid ho
      have HB5 := hid hb
      have hz5 := hb.size
      have hbw := hx.lt
      clear hx ho hb
      by_cases hlt : k < n
      · obtain ⟨q, hq⟩ : ∃ q, L[k]? = some q := ⟨_, List.getElem?_eq_getElem (by rw [HLN.out]; exact hlt)⟩
        have hnm := HNUM.out k q hq
        have HTN := hid (take_next hq)
        have HEN := hid (endL_snoc 0 q (L.take k))
        have HES := hid (show encs encU [(L.length : Int)] ++ encPs 0 (L.take k ++ [q]) = encs encU [(L.length : Int)] ++ encPs 0 (L.take k) ++ encP (endL 0 (L.take k)) q by rw [encPs_snoc]; simp only [List.append_assoc])
        have HLEN := hid (show (encs encU [(L.length : Int)] ++ encPs 0 (L.take k)).length ≤ 90000 by
          have h1 := encPs_len HNUM.out k (by rw [HLN.out]; omega)
          have h3 := encs_len (f := encU) (m := 9) [(L.length : Int)] (fun z hz => nat_len (by simp at hz; have := HLN.out; omega))
          simp at h3
          simp
          omega)
        obtain ⟨g, cap, hv, hgB, hgs, hcells0⟩ := OwnP.cells HOX.out (by rw [HLN.out]; omega)
        have hgne := HNE.out g (by rw [hv]; rfl)
        have hcells : ∀ i p, L[i]? = some p → ∀ j, j < 9 → wr.cell? ⟨g, i * 9 + j, none⟩ = some (.int .i64 (p.f j)) := fun i p hi j hj => by rw [HO5.out.cell hgs hgne]; exact hcells0 i p hi j hj
        injection hv with hv1 hv2 hv3
        subst hv1 hv3
        have hcs := hcells k q hq
        clear hv2 hcells hcells0 hq
        have hxi := hnm.id
        have hxj := hnm.i
        have hxl := hnm.l
        have hxz := hnm.z
        have hxh := hnm.h
        have hxx := hnm.x
        have hxy := hnm.y
        have hxw := hnm.wd
        have hxn := hnm.nm
        have hxo := hnm.of
        have hxc := hnm.cl
        clear hnm
        generalize endL 0 (L.take k) = le at *
        generalize encs encU [(L.length : Int)] ++ encPs 0 (L.take k) = ys at *
        obtain ⟨p0, p1, p2, p3, p4, p5, p6, p7, p8⟩ := q
        simp only at hxi hxj hxz hxh hxx hxy hxw hxn hxo hxc
        have a0 : wr.cell? ⟨g, k * 9, none⟩ = some (.int .i64 p0) := hcs 0 (by decide)
        have a1 : wr.cell? ⟨g, k * 9 + 1, none⟩ = some (.int .i64 p1) := hcs 1 (by decide)
        have a2 : wr.cell? ⟨g, k * 9 + 2, none⟩ = some (.int .i64 p2) := hcs 2 (by decide)
        have a3 : wr.cell? ⟨g, k * 9 + 3, none⟩ = some (.int .i64 p3) := hcs 3 (by decide)
        have a4 : wr.cell? ⟨g, k * 9 + 4, none⟩ = some (.int .i64 p4) := hcs 4 (by decide)
        have a5 : wr.cell? ⟨g, k * 9 + 5, none⟩ = some (.int .i64 p5) := hcs 5 (by decide)
        have a6 : wr.cell? ⟨g, k * 9 + 6, none⟩ = some (.int .i64 p6) := hcs 6 (by decide)
        have a7 : wr.cell? ⟨g, k * 9 + 7, none⟩ = some (.int .i64 p7) := hcs 7 (by decide)
        have a8 : wr.cell? ⟨g, k * 9 + 8, none⟩ = some (.int .i64 p8) := hcs 8 (by decide)
        clear hcs
        obtain ⟨pb, hpb⟩ : ∃ pb, pb = wr.heap.size := ⟨_, rfl⟩
        have F0 := hid (heap_alloc_at wr (.cells #[.int .i64 p0, .int .i64 p1, .int .i64 p2, .int .i64 p3, .int .i64 p4, .int .i64 p5, .int .i64 p6, .int .i64 p7, .int .i64 p8] 78) pb hpb)
        have X6 := hid (X5.out.grow ((Below.refl wr.heap.size wr).alloc (Nat.le_refl _) (.cells #[.int .i64 p0, .int .i64 p1, .int .i64 p2, .int .i64 p3, .int .i64 p4, .int .i64 p5, .int .i64 p6, .int .i64 p7, .int .i64 p8] 78)))
        have O6 := hid ((Only.refl bb wr.heap.size wr).alloc (Nat.le_refl _) (.cells #[.int .i64 p0, .int .i64 p1, .int .i64 p2, .int .i64 p3, .int .i64 p4, .int .i64 p5, .int .i64 p6, .int .i64 p7, .int .i64 p8] 78))
        have hz6 : (wr.alloc (.cells #[.int .i64 p0, .int .i64 p1, .int .i64 p2, .int .i64 p3, .int .i64 p4, .int .i64 p5, .int .i64 p6, .int .i64 p7, .int .i64 p8] 78)).heap.size = pb + 1 := by simp [hpb]
        have hpw : wr.heap.size ≤ pb := by omega
        have HD := hid (show ys ++ encU (p0 - le) ++ encS p1 ++ encS p2 ++ encS p3 ++ encU (p4 - p3) ++ encU p5 ++ encU p6 ++ encU p7 ++ encU p8 = ys ++ encP le ⟨p0, p1, p2, p3, p4, p5, p6, p7, p8⟩ by simp [encP, encs])
        have HL0 := hid (nat_len (z := p0 - le) (by omega))
        have HL4 := hid (nat_len (z := p4 - p3) (by omega))
        have HL5 := hid (nat_len (z := p5) (by omega))
        have HL6 := hid (nat_len (z := p6) (by omega))
        have HL7 := hid (nat_len (z := p7) (by omega))
        have HL8 := hid (nat_len (z := p8) (by omega))
        have HL1 := hid (zig_len (z := p1) (by omega))
        have HL2 := hid (zig_len (z := p2) (by omega))
        have HL3 := hid (zig_len (z := p3) (by omega))
        have hidx := idx84 (p4 - p3) p5 p6 p7 p8
        have hi0 := fun w => (hidx w).1
        have hi1 := fun w => (hidx w).2.1
        have hi2 := fun w => (hidx w).2.2.1
        have hi3 := fun w => (hidx w).2.2.2.1
        have hi4 := fun w => (hidx w).2.2.2.2
        clear hidx
        have HPB := hid hpb
        clear hpb
        go_wp2_with fail
        rw [← HPB.out]
        generalize wr.alloc (.cells #[.int .i64 p0, .int .i64 p1, .int .i64 p2, .int .i64 p3, .int .i64 p4, .int .i64 p5, .int .i64 p6, .int .i64 p7, .int .i64 p8] 78) = W6 at *
        refine (bnumI_any bb (p0 - le) (ys) _ X6.out (by have := HLEN.out;  omega) (by omega)).mono ?_
        rintro r w7 ⟨rfl, hx, hol⟩
        have X7 := hid hx
        have F7 := hid (hol.heap (by omega) F0.out)
        have O7 := hid (O6.out.trans hol (by omega))
        have hz7 := hol.size
        have c7_0 : w7.cell? ⟨pb, 0, none⟩ = some (.int .i64 p0) := (cell_row (j := 0) F7.out).trans rfl
        have c7_1 : w7.cell? ⟨pb, 1, none⟩ = some (.int .i64 p1) := (cell_row (j := 1) F7.out).trans rfl
        have c7_2 : w7.cell? ⟨pb, 2, none⟩ = some (.int .i64 p2) := (cell_row (j := 2) F7.out).trans rfl
        have c7_3 : w7.cell? ⟨pb, 3, none⟩ = some (.int .i64 p3) := (cell_row (j := 3) F7.out).trans rfl
        have c7_4 : w7.cell? ⟨pb, 4, none⟩ = some (.int .i64 p4) := (cell_row (j := 4) F7.out).trans rfl
        have c7_5 : w7.cell? ⟨pb, 5, none⟩ = some (.int .i64 p5) := (cell_row (j := 5) F7.out).trans rfl
        have c7_6 : w7.cell? ⟨pb, 6, none⟩ = some (.int .i64 p6) := (cell_row (j := 6) F7.out).trans rfl
        have c7_7 : w7.cell? ⟨pb, 7, none⟩ = some (.int .i64 p7) := (cell_row (j := 7) F7.out).trans rfl
        have c7_8 : w7.cell? ⟨pb, 8, none⟩ = some (.int .i64 p8) := (cell_row (j := 8) F7.out).trans rfl
        clear hx hol
        go_wp2_with fail
        refine (bsigI_any bb p1 (ys ++ encU (p0 - le)) _ X7.out (by have := HLEN.out; have := HL0.out; simp [encU]; omega) (by omega)).mono ?_
        rintro r w8 ⟨rfl, hx, hol⟩
        have X8 := hid hx
        have F8 := hid (hol.heap (by omega) F7.out)
        have O8 := hid (O7.out.trans hol (by omega))
        have hz8 := hol.size
        have c8_0 : w8.cell? ⟨pb, 0, none⟩ = some (.int .i64 p0) := (cell_row (j := 0) F8.out).trans rfl
        have c8_1 : w8.cell? ⟨pb, 1, none⟩ = some (.int .i64 p1) := (cell_row (j := 1) F8.out).trans rfl
        have c8_2 : w8.cell? ⟨pb, 2, none⟩ = some (.int .i64 p2) := (cell_row (j := 2) F8.out).trans rfl
        have c8_3 : w8.cell? ⟨pb, 3, none⟩ = some (.int .i64 p3) := (cell_row (j := 3) F8.out).trans rfl
        have c8_4 : w8.cell? ⟨pb, 4, none⟩ = some (.int .i64 p4) := (cell_row (j := 4) F8.out).trans rfl
        have c8_5 : w8.cell? ⟨pb, 5, none⟩ = some (.int .i64 p5) := (cell_row (j := 5) F8.out).trans rfl
        have c8_6 : w8.cell? ⟨pb, 6, none⟩ = some (.int .i64 p6) := (cell_row (j := 6) F8.out).trans rfl
        have c8_7 : w8.cell? ⟨pb, 7, none⟩ = some (.int .i64 p7) := (cell_row (j := 7) F8.out).trans rfl
        have c8_8 : w8.cell? ⟨pb, 8, none⟩ = some (.int .i64 p8) := (cell_row (j := 8) F8.out).trans rfl
        clear hx hol c7_0 c7_1 c7_2 c7_3 c7_4 c7_5 c7_6 c7_7 c7_8
        go_wp2_with fail
        refine (bsigI_any bb p2 (ys ++ encU (p0 - le) ++ encS p1) _ X8.out (by have := HLEN.out; have := HL0.out; have := HL1.out; simp [encU, encS]; omega) (by omega)).mono ?_
        rintro r w9 ⟨rfl, hx, hol⟩
        have X9 := hid hx
        have F9 := hid (hol.heap (by omega) F8.out)
        have O9 := hid (O8.out.trans hol (by omega))
        have hz9 := hol.size
        have c9_0 : w9.cell? ⟨pb, 0, none⟩ = some (.int .i64 p0) := (cell_row (j := 0) F9.out).trans rfl
        have c9_1 : w9.cell? ⟨pb, 1, none⟩ = some (.int .i64 p1) := (cell_row (j := 1) F9.out).trans rfl
        have c9_2 : w9.cell? ⟨pb, 2, none⟩ = some (.int .i64 p2) := (cell_row (j := 2) F9.out).trans rfl
        have c9_3 : w9.cell? ⟨pb, 3, none⟩ = some (.int .i64 p3) := (cell_row (j := 3) F9.out).trans rfl
        have c9_4 : w9.cell? ⟨pb, 4, none⟩ = some (.int .i64 p4) := (cell_row (j := 4) F9.out).trans rfl
        have c9_5 : w9.cell? ⟨pb, 5, none⟩ = some (.int .i64 p5) := (cell_row (j := 5) F9.out).trans rfl
        have c9_6 : w9.cell? ⟨pb, 6, none⟩ = some (.int .i64 p6) := (cell_row (j := 6) F9.out).trans rfl
        have c9_7 : w9.cell? ⟨pb, 7, none⟩ = some (.int .i64 p7) := (cell_row (j := 7) F9.out).trans rfl
        have c9_8 : w9.cell? ⟨pb, 8, none⟩ = some (.int .i64 p8) := (cell_row (j := 8) F9.out).trans rfl
        clear hx hol c8_0 c8_1 c8_2 c8_3 c8_4 c8_5 c8_6 c8_7 c8_8
        go_wp2_with fail
        refine (bsigI_any bb p3 (ys ++ encU (p0 - le) ++ encS p1 ++ encS p2) _ X9.out (by have := HLEN.out; have := HL0.out; have := HL1.out; have := HL2.out; simp [encU, encS]; omega) (by omega)).mono ?_
        rintro r w10 ⟨rfl, hx, hol⟩
        have X10 := hid hx
        have F10 := hid (hol.heap (by omega) F9.out)
        have O10 := hid (O9.out.trans hol (by omega))
        have hz10 := hol.size
        have c10_0 : w10.cell? ⟨pb, 0, none⟩ = some (.int .i64 p0) := (cell_row (j := 0) F10.out).trans rfl
        have c10_1 : w10.cell? ⟨pb, 1, none⟩ = some (.int .i64 p1) := (cell_row (j := 1) F10.out).trans rfl
        have c10_2 : w10.cell? ⟨pb, 2, none⟩ = some (.int .i64 p2) := (cell_row (j := 2) F10.out).trans rfl
        have c10_3 : w10.cell? ⟨pb, 3, none⟩ = some (.int .i64 p3) := (cell_row (j := 3) F10.out).trans rfl
        have c10_4 : w10.cell? ⟨pb, 4, none⟩ = some (.int .i64 p4) := (cell_row (j := 4) F10.out).trans rfl
        have c10_5 : w10.cell? ⟨pb, 5, none⟩ = some (.int .i64 p5) := (cell_row (j := 5) F10.out).trans rfl
        have c10_6 : w10.cell? ⟨pb, 6, none⟩ = some (.int .i64 p6) := (cell_row (j := 6) F10.out).trans rfl
        have c10_7 : w10.cell? ⟨pb, 7, none⟩ = some (.int .i64 p7) := (cell_row (j := 7) F10.out).trans rfl
        have c10_8 : w10.cell? ⟨pb, 8, none⟩ = some (.int .i64 p8) := (cell_row (j := 8) F10.out).trans rfl
        clear hx hol c9_0 c9_1 c9_2 c9_3 c9_4 c9_5 c9_6 c9_7 c9_8
        go_wp2_with fail
        refine wp_loop_rounds 6 ?_
        rw [rounds_succ]
        go_wp2_with fail
        refine (bnumI_any bb (p4 - p3) (ys ++ encU (p0 - le) ++ encS p1 ++ encS p2 ++ encS p3) _ X10.out (by have := HLEN.out; have := HL0.out; have := HL1.out; have := HL2.out; have := HL3.out; simp [encU, encS]; omega) (by omega)).mono ?_
        rintro r w11 ⟨rfl, hx, hol⟩
        have X11 := hid hx
        have F11 := hid (hol.heap (by omega) F10.out)
        have O11 := hid (O10.out.trans hol (by omega))
        have hz11 := hol.size
        have c11_0 : w11.cell? ⟨pb, 0, none⟩ = some (.int .i64 p0) := (cell_row (j := 0) F11.out).trans rfl
        have c11_1 : w11.cell? ⟨pb, 1, none⟩ = some (.int .i64 p1) := (cell_row (j := 1) F11.out).trans rfl
        have c11_2 : w11.cell? ⟨pb, 2, none⟩ = some (.int .i64 p2) := (cell_row (j := 2) F11.out).trans rfl
        have c11_3 : w11.cell? ⟨pb, 3, none⟩ = some (.int .i64 p3) := (cell_row (j := 3) F11.out).trans rfl
        have c11_4 : w11.cell? ⟨pb, 4, none⟩ = some (.int .i64 p4) := (cell_row (j := 4) F11.out).trans rfl
        have c11_5 : w11.cell? ⟨pb, 5, none⟩ = some (.int .i64 p5) := (cell_row (j := 5) F11.out).trans rfl
        have c11_6 : w11.cell? ⟨pb, 6, none⟩ = some (.int .i64 p6) := (cell_row (j := 6) F11.out).trans rfl
        have c11_7 : w11.cell? ⟨pb, 7, none⟩ = some (.int .i64 p7) := (cell_row (j := 7) F11.out).trans rfl
        have c11_8 : w11.cell? ⟨pb, 8, none⟩ = some (.int .i64 p8) := (cell_row (j := 8) F11.out).trans rfl
        clear hx hol c10_0 c10_1 c10_2 c10_3 c10_4 c10_5 c10_6 c10_7 c10_8
        go_wp2_with fail
        rw [rounds_succ]
        go_wp2_with fail
        refine (bnumI_any bb p5 (ys ++ encU (p0 - le) ++ encS p1 ++ encS p2 ++ encS p3 ++ encU (p4 - p3)) _ X11.out (by have := HLEN.out; have := HL0.out; have := HL1.out; have := HL2.out; have := HL3.out; have := HL4.out; simp [encU, encS]; omega) (by omega)).mono ?_
        rintro r w12 ⟨rfl, hx, hol⟩
        have X12 := hid hx
        have F12 := hid (hol.heap (by omega) F11.out)
        have O12 := hid (O11.out.trans hol (by omega))
        have hz12 := hol.size
        have c12_0 : w12.cell? ⟨pb, 0, none⟩ = some (.int .i64 p0) := (cell_row (j := 0) F12.out).trans rfl
        have c12_1 : w12.cell? ⟨pb, 1, none⟩ = some (.int .i64 p1) := (cell_row (j := 1) F12.out).trans rfl
        have c12_2 : w12.cell? ⟨pb, 2, none⟩ = some (.int .i64 p2) := (cell_row (j := 2) F12.out).trans rfl
        have c12_3 : w12.cell? ⟨pb, 3, none⟩ = some (.int .i64 p3) := (cell_row (j := 3) F12.out).trans rfl
        have c12_4 : w12.cell? ⟨pb, 4, none⟩ = some (.int .i64 p4) := (cell_row (j := 4) F12.out).trans rfl
        have c12_5 : w12.cell? ⟨pb, 5, none⟩ = some (.int .i64 p5) := (cell_row (j := 5) F12.out).trans rfl
        have c12_6 : w12.cell? ⟨pb, 6, none⟩ = some (.int .i64 p6) := (cell_row (j := 6) F12.out).trans rfl
        have c12_7 : w12.cell? ⟨pb, 7, none⟩ = some (.int .i64 p7) := (cell_row (j := 7) F12.out).trans rfl
        have c12_8 : w12.cell? ⟨pb, 8, none⟩ = some (.int .i64 p8) := (cell_row (j := 8) F12.out).trans rfl
        clear hx hol c11_0 c11_1 c11_2 c11_3 c11_4 c11_5 c11_6 c11_7 c11_8
        go_wp2_with fail
        rw [rounds_succ]
        go_wp2_with fail
        refine (bnumI_any bb p6 (ys ++ encU (p0 - le) ++ encS p1 ++ encS p2 ++ encS p3 ++ encU (p4 - p3) ++ encU p5) _ X12.out (by have := HLEN.out; have := HL0.out; have := HL1.out; have := HL2.out; have := HL3.out; have := HL4.out; have := HL5.out; simp [encU, encS]; omega) (by omega)).mono ?_
        rintro r w13 ⟨rfl, hx, hol⟩
        have X13 := hid hx
        have F13 := hid (hol.heap (by omega) F12.out)
        have O13 := hid (O12.out.trans hol (by omega))
        have hz13 := hol.size
        have c13_0 : w13.cell? ⟨pb, 0, none⟩ = some (.int .i64 p0) := (cell_row (j := 0) F13.out).trans rfl
        have c13_1 : w13.cell? ⟨pb, 1, none⟩ = some (.int .i64 p1) := (cell_row (j := 1) F13.out).trans rfl
        have c13_2 : w13.cell? ⟨pb, 2, none⟩ = some (.int .i64 p2) := (cell_row (j := 2) F13.out).trans rfl
        have c13_3 : w13.cell? ⟨pb, 3, none⟩ = some (.int .i64 p3) := (cell_row (j := 3) F13.out).trans rfl
        have c13_4 : w13.cell? ⟨pb, 4, none⟩ = some (.int .i64 p4) := (cell_row (j := 4) F13.out).trans rfl
        have c13_5 : w13.cell? ⟨pb, 5, none⟩ = some (.int .i64 p5) := (cell_row (j := 5) F13.out).trans rfl
        have c13_6 : w13.cell? ⟨pb, 6, none⟩ = some (.int .i64 p6) := (cell_row (j := 6) F13.out).trans rfl
        have c13_7 : w13.cell? ⟨pb, 7, none⟩ = some (.int .i64 p7) := (cell_row (j := 7) F13.out).trans rfl
        have c13_8 : w13.cell? ⟨pb, 8, none⟩ = some (.int .i64 p8) := (cell_row (j := 8) F13.out).trans rfl
        clear hx hol c12_0 c12_1 c12_2 c12_3 c12_4 c12_5 c12_6 c12_7 c12_8
        go_wp2_with fail
        rw [rounds_succ]
        go_wp2_with fail
        refine (bnumI_any bb p7 (ys ++ encU (p0 - le) ++ encS p1 ++ encS p2 ++ encS p3 ++ encU (p4 - p3) ++ encU p5 ++ encU p6) _ X13.out (by have := HLEN.out; have := HL0.out; have := HL1.out; have := HL2.out; have := HL3.out; have := HL4.out; have := HL5.out; have := HL6.out; simp [encU, encS]; omega) (by omega)).mono ?_
        rintro r w14 ⟨rfl, hx, hol⟩
        have X14 := hid hx
        have F14 := hid (hol.heap (by omega) F13.out)
        have O14 := hid (O13.out.trans hol (by omega))
        have hz14 := hol.size
        have c14_0 : w14.cell? ⟨pb, 0, none⟩ = some (.int .i64 p0) := (cell_row (j := 0) F14.out).trans rfl
        have c14_1 : w14.cell? ⟨pb, 1, none⟩ = some (.int .i64 p1) := (cell_row (j := 1) F14.out).trans rfl
        have c14_2 : w14.cell? ⟨pb, 2, none⟩ = some (.int .i64 p2) := (cell_row (j := 2) F14.out).trans rfl
        have c14_3 : w14.cell? ⟨pb, 3, none⟩ = some (.int .i64 p3) := (cell_row (j := 3) F14.out).trans rfl
        have c14_4 : w14.cell? ⟨pb, 4, none⟩ = some (.int .i64 p4) := (cell_row (j := 4) F14.out).trans rfl
        have c14_5 : w14.cell? ⟨pb, 5, none⟩ = some (.int .i64 p5) := (cell_row (j := 5) F14.out).trans rfl
        have c14_6 : w14.cell? ⟨pb, 6, none⟩ = some (.int .i64 p6) := (cell_row (j := 6) F14.out).trans rfl
        have c14_7 : w14.cell? ⟨pb, 7, none⟩ = some (.int .i64 p7) := (cell_row (j := 7) F14.out).trans rfl
        have c14_8 : w14.cell? ⟨pb, 8, none⟩ = some (.int .i64 p8) := (cell_row (j := 8) F14.out).trans rfl
        clear hx hol c13_0 c13_1 c13_2 c13_3 c13_4 c13_5 c13_6 c13_7 c13_8
        go_wp2_with fail
        rw [rounds_succ]
        go_wp2_with fail
        refine (bnumI_any bb p8 (ys ++ encU (p0 - le) ++ encS p1 ++ encS p2 ++ encS p3 ++ encU (p4 - p3) ++ encU p5 ++ encU p6 ++ encU p7) _ X14.out (by have := HLEN.out; have := HL0.out; have := HL1.out; have := HL2.out; have := HL3.out; have := HL4.out; have := HL5.out; have := HL6.out; have := HL7.out; simp [encU, encS]; omega) (by omega)).mono ?_
        rintro r w15 ⟨rfl, hx, hol⟩
        have X15 := hid hx
        have F15 := hid (hol.heap (by omega) F14.out)
        have O15 := hid (O14.out.trans hol (by omega))
        have hz15 := hol.size
        have c15_0 : w15.cell? ⟨pb, 0, none⟩ = some (.int .i64 p0) := (cell_row (j := 0) F15.out).trans rfl
        have c15_1 : w15.cell? ⟨pb, 1, none⟩ = some (.int .i64 p1) := (cell_row (j := 1) F15.out).trans rfl
        have c15_2 : w15.cell? ⟨pb, 2, none⟩ = some (.int .i64 p2) := (cell_row (j := 2) F15.out).trans rfl
        have c15_3 : w15.cell? ⟨pb, 3, none⟩ = some (.int .i64 p3) := (cell_row (j := 3) F15.out).trans rfl
        have c15_4 : w15.cell? ⟨pb, 4, none⟩ = some (.int .i64 p4) := (cell_row (j := 4) F15.out).trans rfl
        have c15_5 : w15.cell? ⟨pb, 5, none⟩ = some (.int .i64 p5) := (cell_row (j := 5) F15.out).trans rfl
        have c15_6 : w15.cell? ⟨pb, 6, none⟩ = some (.int .i64 p6) := (cell_row (j := 6) F15.out).trans rfl
        have c15_7 : w15.cell? ⟨pb, 7, none⟩ = some (.int .i64 p7) := (cell_row (j := 7) F15.out).trans rfl
        have c15_8 : w15.cell? ⟨pb, 8, none⟩ = some (.int .i64 p8) := (cell_row (j := 8) F15.out).trans rfl
        clear hx hol c14_0 c14_1 c14_2 c14_3 c14_4 c14_5 c14_6 c14_7 c14_8
        go_wp2_with fail
        rw [rounds_succ]
        go_wp2_with fail
        refine ⟨⟨k + 1, by omega, by go_num, by rw [HTN.out, HEN.out], by rw [HTN.out, HES.out, ← HD.out]; exact X15.out, HO5.out.trans O15.out HO5.out.size, HB5.out.trans (O15.out.below (B := w.heap.size) hwb hz5)⟩, by simp [intOf]; omega⟩
      · obtain rfl : k = n := by omega
        have HTK := hid (show L.take k = L by rw [← HLN.out]; exact List.take_length)
        rw [HTK.out] at X5
        obtain ⟨bv, hbr, hbo⟩ := X5.out
        have HBR := hid hbr
        have HEDL := hid (encDB_len HGL.out HASC.out)
        have HCK := hid (checked_own (bb + 1) _ bv (encDB L) wr hbo.1 (by omega) (by have := HEDL.out; show (encDB L).length ≤ 900000; omega) (encDB_byte L))
        obtain ⟨pb, nb, cb, rfl⟩ := hbo.shape
        have c0 : wr.cell? ⟨bb, 0, none⟩ = some (.slice pb nb cb) := (cell_row (j := 0) hbr).trans rfl
        have d1 : decide ((k : Int) < (k : Int)) = false := by simp
        clear hbr hbo
        go_wp2_with fail
        refine HCK.out.mono ?_
        rintro r w9 ⟨⟨v9, rfl, ho9⟩, hb9⟩
        have HO9 := hid (show OwnB w9 w.heap.size v9 (encD L) from ho9.base (by omega))
        have HB9 := hid (HB5.out.trans (hb9.mono (by omega)))
        clear ho9 hb9
        go_wp2_with fail
        go_ret2
        exact ⟨Or.inl ⟨HGT.out, v9, L, rfl, HPERM.out, HASC.out, HO9.out⟩, HB9.out⟩
end Go.Proofs.Ytpablkmdpoombaa
