/- Texts of the seat Ytpablkmdpoombaa, turned to this one by wip/port.py: Ship Recv RShip PAwake. -/
import Derived.Test.YtpfighhhemnhaaaGreatA
import Derived.Test.YtpfighhhemnhaaaGreatB
import Derived.Test.YtpfighhhemnhaaaGreatC
import Derived.Test.YtpfighhhemnhaaaGreatD
import Derived.Test.YtpfighhhemnhaaaGreatE
import Derived.Test.YtpfighhhemnhaaaGreatF
/- Ship -/
namespace Go.Proofs.YtpfighhhemnhaaaGreat
open Go.RowKit Go.Sort

/-- the captured slice of bytes -/
def BxAt (w : World) (bb : Nat) (xs : List Nat) : Prop := ∃ v, w.heap[bb]? = some (.cells #[v] 38) ∧ OwnB w (bb + 1) v xs
theorem BxAt.grow {w w' : World} {bb : Nat} {xs : List Nat} (h : BxAt w bb xs) (hb : Below w.heap.size w w') : BxAt w' bb xs := by
  obtain ⟨v, hr, ho⟩ := h
  exact ⟨v, heap_still hb hr, ho.grow hb⟩
theorem BxAt.lt {w : World} {bb : Nat} {xs : List Nat} (h : BxAt w bb xs) : bb < w.heap.size := by
  obtain ⟨v, hr, _⟩ := h
  exact (Array.getElem?_eq_some_iff.1 hr).1
set_option maxRecDepth 100000 in
theorem bnum_any (bb : Nat) (z : Nat) (xs : List Nat) (w : World) (h : BxAt w bb xs) (hn : xs.length ≤ 1000000) (hz : z ≤ 4611686018427387903) :
    Calls Tryz.prog 72 #[.int .i64 (z : Nat), .pointer (some ⟨bb, 0, none⟩)] w fun e w' => e = .returned (.tuple #[]) ∧ BxAt w' bb (xs ++ encN z) ∧ Only bb w.heap.size w w' := by
  have hbb := h.lt
  obtain ⟨v, hr, ho⟩ := h
  have HR := hid hr
  have HC := hid (xNumber_own (w := w) (z := z) (ho.base (Nat.zero_le _)) hn hz)
  obtain ⟨p0, n0, c0', rfl⟩ := ho.shape
  have c0 : w.cell? ⟨bb, 0, none⟩ = some (.slice p0 n0 c0') := (cell_row (j := 0) hr).trans rfl
  clear hr ho hz
  go_enter Tryz.func72, Tryz.ntmps72
  go_wp2_with fail
  refine HC.out.mono ?_
  rintro r w1 ⟨⟨v', rfl, ho'⟩, hb⟩
  have HO := hid ho'
  have HR1 := hid (heap_still hb HR.out)
  have f1 : w1.frozen? ⟨bb, 0, none⟩ = false := by have hh := HR1.out; simp [World.frozen?, hh]
  have c1 : w1.cell? ⟨bb, 0, none⟩ = some (.slice p0 n0 c0') := (cell_row (j := 0) HR1.out).trans rfl
  have HOL := hid (Only.of_below (rb := bb) hb)
  have hz1 := hb.size
  obtain ⟨p1, n1, c1', rfl⟩ := ho'.shape
  clear ho' hb c0
  go_wp2_with fail
  go_end0
  exact ⟨rfl, ⟨_, heap_setCell HR1.out _, (HO.out.base (show bb + 1 ≤ w.heap.size by omega)).same (fun g hg => Below.heap_setCell w1 ⟨bb, 0, none⟩ _ g (fun e => by have h1 : g = bb := e; have := (HO.out.block hg).1; omega))⟩, only_setCell HOL.out _⟩
set_option maxRecDepth 100000 in
theorem bsig_any (bb : Nat) (z : Int) (xs : List Nat) (w : World) (h : BxAt w bb xs) (hn : xs.length ≤ 1000000) (hz : -2305843009213693952 ≤ z ∧ z ≤ 2305843009213693951) :
    Calls Tryz.prog 74 #[.int .i64 z, .pointer (some ⟨bb, 0, none⟩)] w fun e w' => e = .returned (.tuple #[]) ∧ BxAt w' bb (xs ++ encN (zig z)) ∧ Only bb w.heap.size w w' := by
  have hbb := h.lt
  obtain ⟨v, hr, ho⟩ := h
  have HR := hid hr
  have HC := hid (xSigned_own (w := w) (z := z) (ho.base (Nat.zero_le _)) hn hz)
  obtain ⟨p0, n0, c0', rfl⟩ := ho.shape
  have c0 : w.cell? ⟨bb, 0, none⟩ = some (.slice p0 n0 c0') := (cell_row (j := 0) hr).trans rfl
  clear hr ho hz
  go_enter Tryz.func74, Tryz.ntmps74
  go_wp2_with fail
  refine HC.out.mono ?_
  rintro r w1 ⟨⟨v', rfl, ho'⟩, hb⟩
  have HO := hid ho'
  have HR1 := hid (heap_still hb HR.out)
  have f1 : w1.frozen? ⟨bb, 0, none⟩ = false := by have hh := HR1.out; simp [World.frozen?, hh]
  have c1 : w1.cell? ⟨bb, 0, none⟩ = some (.slice p0 n0 c0') := (cell_row (j := 0) HR1.out).trans rfl
  have HOL := hid (Only.of_below (rb := bb) hb)
  have hz1 := hb.size
  obtain ⟨p1, n1, c1', rfl⟩ := ho'.shape
  clear ho' hb c0
  go_wp2_with fail
  go_end0
  exact ⟨rfl, ⟨_, heap_setCell HR1.out _, (HO.out.base (show bb + 1 ≤ w.heap.size by omega)).same (fun g hg => Below.heap_setCell w1 ⟨bb, 0, none⟩ _ g (fun e => by have h1 : g = bb := e; have := (HO.out.block hg).1; omega))⟩, only_setCell HOL.out _⟩
theorem idx84 (a b c d e : Int) (w : World) :
    (Instr.index 195 (.agg #[.int .i64 a, .int .i64 b, .int .i64 c, .int .i64 d, .int .i64 e]) (.int .i64 0)).run Tryz.prog w = .ok (.int .i64 a) w ∧
    (Instr.index 195 (.agg #[.int .i64 a, .int .i64 b, .int .i64 c, .int .i64 d, .int .i64 e]) (.int .i64 1)).run Tryz.prog w = .ok (.int .i64 b) w ∧
    (Instr.index 195 (.agg #[.int .i64 a, .int .i64 b, .int .i64 c, .int .i64 d, .int .i64 e]) (.int .i64 2)).run Tryz.prog w = .ok (.int .i64 c) w ∧
    (Instr.index 195 (.agg #[.int .i64 a, .int .i64 b, .int .i64 c, .int .i64 d, .int .i64 e]) (.int .i64 3)).run Tryz.prog w = .ok (.int .i64 d) w ∧
    (Instr.index 195 (.agg #[.int .i64 a, .int .i64 b, .int .i64 c, .int .i64 d, .int .i64 e]) (.int .i64 4)).run Tryz.prog w = .ok (.int .i64 e) w := by
  refine ⟨?_, ?_, ?_, ?_, ?_⟩
  all_goals simp [Instr.index, run_underlying Tryz.underlying195, asIntOf, go_sem]
theorem bnumI_any (bb : Nat) (z : Int) (xs : List Nat) (w : World) (h : BxAt w bb xs) (hn : xs.length ≤ 1000000) (hz : 0 ≤ z ∧ z ≤ 4611686018427387903) :
    Calls Tryz.prog 72 #[.int .i64 z, .pointer (some ⟨bb, 0, none⟩)] w fun e w' => e = .returned (.tuple #[]) ∧ BxAt w' bb (xs ++ encU z) ∧ Only bb w.heap.size w w' := by
  have h1 := bnum_any bb z.toNat xs w h hn (by omega)
  rw [show ((z.toNat : Nat) : Int) = z by omega] at h1
  exact h1
theorem bsigI_any (bb : Nat) (z : Int) (xs : List Nat) (w : World) (h : BxAt w bb xs) (hn : xs.length ≤ 1000000) (hz : -2305843009213693952 ≤ z ∧ z ≤ 2305843009213693951) :
    Calls Tryz.prog 74 #[.int .i64 z, .pointer (some ⟨bb, 0, none⟩)] w fun e w' => e = .returned (.tuple #[]) ∧ BxAt w' bb (xs ++ encS z) ∧ Only bb w.heap.size w w' := bsig_any bb z xs w h hn hz
theorem clone_list (pv : Value) (S : List Pt) (w : World) (hp : PtsV w pv S) (hn : S.length ≤ 4096) : Calls Tryz.prog 69 #[pv] w fun r w' => (∃ v, r = .returned v ∧ OwnP w' w.heap.size v S) ∧ Below w.heap.size w w' := by
  obtain ⟨a, cap, rfl, h⟩ := hp
  by_cases hl : S = []
  · subst hl
    exact clone_empty a cap w
  · obtain ⟨b, off, rfl, hb, hr⟩ := h.resolve_left hl
    exact clone_pts b off cap S w hn hb hr
/-- what Ship returns -/
def ShipRes (B : Nat) (S : List Pt) (r : Ending) (w' : World) : Prop :=
  (goodL S = true ∧ ∃ v L, r = .returned (.tuple #[v, .int .i64 0]) ∧ L.Perm S ∧ Asc L ∧ OwnB w' B v (encD L)) ∨ (goodL S = false ∧ r = .returned (.tuple #[.slice none 0 0, .int .i64 70]))
set_option maxRecDepth 100000 in
set_option maxHeartbeats 12800000 in
theorem xShip_any (pv : Value) (S : List Pt) (w : World) (hp : PtsV w pv S) (hS : S.length ≤ maxLen) :
    Calls Tryz.prog 31 #[pv] w fun e w' => ShipRes w.heap.size S e w' ∧ Below w.heap.size w w' := by
  have HG := hid (goods_any pv S w hp hS)
  have HP := hid hp
  obtain ⟨pa, pc, rfl, _⟩ := hp
  obtain ⟨n, hn⟩ : ∃ n, n = S.length := ⟨_, rfl⟩
  rw [← hn] at hS HG HP ⊢
  have HN := hid hn
  clear hn hS
  cases hg : goodL S
  · rw [hg] at HG
    have HGF := hid hg
    clear hg
    go_enter Tryz.func31, Tryz.ntmps31
    go_wp2_with fail
    refine HG.out.mono ?_
    rintro r w1 ⟨rfl, hb⟩
    go_wp2_with fail
    go_ret2
    exact ⟨Or.inr ⟨HGF.out, rfl⟩, hb⟩
  · rw [hg] at HG
    have HGT := hid hg
    have hn1 : n ≤ 1024 := by rw [HN.out]; exact ((goodL_iff S).1 hg).1
    have HID := hid (show ∀ q ∈ S, 0 ≤ q.id ∧ q.id ≤ 1152921504606846976 from fun q hq => (okP_nums (((goodL_iff S).1 hg).2.1 q hq)).1)
    clear hg
    go_enter Tryz.func31, Tryz.ntmps31
    go_wp2_with fail
    refine HG.out.mono ?_
    rintro r w1 ⟨rfl, hb⟩
    have HB1 := hid hb
    have HP1 := hid (HP.out.still hb)
    have hz1 := hb.size
    clear hb
    go_wp2_with fail
    have HCL := hid (clone_list _ S w1 HP1.out (by rw [← HN.out]; omega))
    refine HCL.out.mono ?_
    rintro r w2 ⟨⟨v2, rfl, ho2⟩, hb⟩
    have HB2 := hid (HB1.out.trans (hb.mono hz1))
    have hz2 := HB2.out.size
    have hz12 := hb.size
    have HO2 := hid ho2
    obtain ⟨a2, c2, rfl⟩ := ho2.slice
    clear ho2 hb
    rw [← HN.out]
    have HSRT := hid (psortId_any (.slice a2 S.length c2) S w1.heap.size w2 HO2.out (by rw [← HN.out]; omega) HID.out)
    rw [← HN.out] at HSRT
    go_wp2_with fail
    refine HSRT.out.mono ?_
    rintro r w3 ⟨rfl, L, hperm, hpw, ho3, hgr⟩
    have HASC := hid (asc_of hpw (goodL_perm hperm.symm HGT.out))
    have HGL := hid (goodL_perm hperm.symm HGT.out)
    have HPERM := hid hperm
    have HLN := hid (hperm.length_eq.trans HN.out.symm)
    have HO3 := hid (show OwnP w3 w1.heap.size (.slice a2 n c2) L from ho3)
    have HB3 := hid (HB2.out.grown hgr hz2 (fun k hk => by have := (OwnR.ownBlock HO2.out k (by rw [← HN.out]; exact hk)); omega))
    have hz3 := HB3.out.size
    have hz23 := hgr.size
    clear hperm hpw ho3 hgr
    have HNUM := hid (nums_ok HGL.out HASC.out)
    go_wp2_with fail
    obtain ⟨bb, hbb⟩ : ∃ bb, bb = w3.heap.size := ⟨_, rfl⟩
    rw [← hbb]
    have X3 := hid (show BxAt (w3.alloc (.cells #[.slice none 0 0] 38)) bb [] from ⟨_, heap_alloc_at _ _ _ hbb, OwnB.nil _ _⟩)
    have HOX := hid (OwnR.grow (W' := w3.alloc (.cells #[.slice none 0 0] 38)) HO3.out ((Below.refl _ _).alloc (Nat.le_refl _) _) : OwnP _ w1.heap.size (.slice a2 n c2) L)
    have HBX := hid (HB3.out.alloc hz3 (.cells #[.slice none 0 0] 38))
    have hzx : (w3.alloc (.cells #[.slice none 0 0] 38)).heap.size = bb + 1 := by simp [hbb]
    have hwb : w.heap.size ≤ bb := by omega
    have HNE := hid (show ∀ g, (Value.slice a2 n c2).ownBlock = some g → g ≠ bb from fun g hg => by
      have h1 := OwnR.lt HO3.out hg
      omega)
    clear hbb
    generalize w3.alloc (.cells #[.slice none 0 0] 38) = W3 at *
    refine (bnum_any bb n [] _ X3.out (by simp) (by omega)).mono ?_
    rintro r w4 ⟨rfl, hx, hol⟩
    have X4 := hid (show BxAt w4 bb (encs encU [(L.length : Int)] ++ encPs 0 (L.take 0)) by
      rw [HLN.out]
      simpa [encs, encU, encPs] using hx)
    have HO4 := hid hol
    have HB4 := hid (HBX.out.trans (hol.below (B := w.heap.size) hwb (by omega)))
    have hz4 := hol.size
    clear hx hol
    go_wp2_with fail
    go_loopw [8, 28] (fun lv iv W => ∃ k : Nat, k ≤ n ∧ iv = .int .i64 (k : Int) ∧ lv = .int .i64 (endL 0 (L.take k)) ∧ BxAt W bb (encs encU [(L.length : Int)] ++ encPs 0 (L.take k)) ∧ Only bb W3.heap.size W3 W ∧ Below w.heap.size w W) (fun _ iv _ => n - (intOf iv).toNat)
    case atStart => exact ⟨0, by omega, rfl, rfl, X4.out, HO4.out, HB4.out⟩
    case round =>
      obtain ⟨k, hk, rfl, rfl, hx, ho, hb⟩ := hrel
      have X5 := hid hx
      have HO5 := hid ho
      have HB5 := hid hb
      have hz5 := hb.size
      have hbw := hx.lt
      clear hx ho hb
      by_cases hlt : k < n
      · obtain ⟨q, hq⟩ : ∃ q, L[k]? = some q := ⟨_, List.getElem?_eq_getElem (by rw [HLN.out]; exact hlt)⟩
        have hnm := HNUM.out k q hq
        have HTN := hid (take_next hq)
        have HEN := hid (endL_snoc 0 q (L.take k))
        have HES := hid (show encs encU [(L.length : Int)] ++ encPs 0 (L.take k ++ [q]) = encs encU [(L.length : Int)] ++ encPs 0 (L.take k) ++ encP (endL 0 (L.take k)) q by rw [encPs_snoc]; simp only [List.append_assoc])
        have HLEN := hid (show (encs encU [(L.length : Int)] ++ encPs 0 (L.take k)).length ≤ 90000 by
          have h1 := encPs_len HNUM.out k (by rw [HLN.out]; omega)
          have h3 := encs_len (f := encU) (m := 9) [(L.length : Int)] (fun z hz => nat_len (by simp at hz; have := HLN.out; omega))
          simp at h3
          simp
          omega)
        obtain ⟨g, cap, hv, hgB, hgs, hcells0⟩ := OwnP.cells HOX.out (by rw [HLN.out]; omega)
        have hgne := HNE.out g (by rw [hv]; rfl)
        have hcells : ∀ i p, L[i]? = some p → ∀ j, j < 9 → wr.cell? ⟨g, i * 9 + j, none⟩ = some (.int .i64 (p.f j)) := fun i p hi j hj => by rw [HO5.out.cell hgs hgne]; exact hcells0 i p hi j hj
        injection hv with hv1 hv2 hv3
        subst hv1 hv3
        have hcs := hcells k q hq
        clear hv2 hcells hcells0 hq
        have hxi := hnm.id
        have hxj := hnm.i
        have hxl := hnm.l
        have hxz := hnm.z
        have hxh := hnm.h
        have hxx := hnm.x
        have hxy := hnm.y
        have hxw := hnm.wd
        have hxn := hnm.nm
        have hxo := hnm.of
        have hxc := hnm.cl
        clear hnm
        generalize endL 0 (L.take k) = le at *
        generalize encs encU [(L.length : Int)] ++ encPs 0 (L.take k) = ys at *
        obtain ⟨p0, p1, p2, p3, p4, p5, p6, p7, p8⟩ := q
        simp only at hxi hxj hxz hxh hxx hxy hxw hxn hxo hxc
        have a0 : wr.cell? ⟨g, k * 9, none⟩ = some (.int .i64 p0) := hcs 0 (by decide)
        have a1 : wr.cell? ⟨g, k * 9 + 1, none⟩ = some (.int .i64 p1) := hcs 1 (by decide)
        have a2 : wr.cell? ⟨g, k * 9 + 2, none⟩ = some (.int .i64 p2) := hcs 2 (by decide)
        have a3 : wr.cell? ⟨g, k * 9 + 3, none⟩ = some (.int .i64 p3) := hcs 3 (by decide)
        have a4 : wr.cell? ⟨g, k * 9 + 4, none⟩ = some (.int .i64 p4) := hcs 4 (by decide)
        have a5 : wr.cell? ⟨g, k * 9 + 5, none⟩ = some (.int .i64 p5) := hcs 5 (by decide)
        have a6 : wr.cell? ⟨g, k * 9 + 6, none⟩ = some (.int .i64 p6) := hcs 6 (by decide)
        have a7 : wr.cell? ⟨g, k * 9 + 7, none⟩ = some (.int .i64 p7) := hcs 7 (by decide)
        have a8 : wr.cell? ⟨g, k * 9 + 8, none⟩ = some (.int .i64 p8) := hcs 8 (by decide)
        clear hcs
        obtain ⟨pb, hpb⟩ : ∃ pb, pb = wr.heap.size := ⟨_, rfl⟩
        have F0 := hid (heap_alloc_at wr (.cells #[.int .i64 p0, .int .i64 p1, .int .i64 p2, .int .i64 p3, .int .i64 p4, .int .i64 p5, .int .i64 p6, .int .i64 p7, .int .i64 p8] 109) pb hpb)
        have X6 := hid (X5.out.grow ((Below.refl wr.heap.size wr).alloc (Nat.le_refl _) (.cells #[.int .i64 p0, .int .i64 p1, .int .i64 p2, .int .i64 p3, .int .i64 p4, .int .i64 p5, .int .i64 p6, .int .i64 p7, .int .i64 p8] 109)))
        have O6 := hid ((Only.refl bb wr.heap.size wr).alloc (Nat.le_refl _) (.cells #[.int .i64 p0, .int .i64 p1, .int .i64 p2, .int .i64 p3, .int .i64 p4, .int .i64 p5, .int .i64 p6, .int .i64 p7, .int .i64 p8] 109))
        have hz6 : (wr.alloc (.cells #[.int .i64 p0, .int .i64 p1, .int .i64 p2, .int .i64 p3, .int .i64 p4, .int .i64 p5, .int .i64 p6, .int .i64 p7, .int .i64 p8] 109)).heap.size = pb + 1 := by simp [hpb]
        have hpw : wr.heap.size ≤ pb := by omega
        have HD := hid (show ys ++ encU (p0 - le) ++ encS p1 ++ encS p2 ++ encS p3 ++ encU (p4 - p3) ++ encU p5 ++ encU p6 ++ encU p7 ++ encU p8 = ys ++ encP le ⟨p0, p1, p2, p3, p4, p5, p6, p7, p8⟩ by simp [encP, encs])
        have HL0 := hid (nat_len (z := p0 - le) (by omega))
        have HL4 := hid (nat_len (z := p4 - p3) (by omega))
        have HL5 := hid (nat_len (z := p5) (by omega))
        have HL6 := hid (nat_len (z := p6) (by omega))
        have HL7 := hid (nat_len (z := p7) (by omega))
        have HL8 := hid (nat_len (z := p8) (by omega))
        have HL1 := hid (zig_len (z := p1) (by omega))
        have HL2 := hid (zig_len (z := p2) (by omega))
        have HL3 := hid (zig_len (z := p3) (by omega))
        have hidx := idx84 (p4 - p3) p5 p6 p7 p8
        have hi0 := fun w => (hidx w).1
        have hi1 := fun w => (hidx w).2.1
        have hi2 := fun w => (hidx w).2.2.1
        have hi3 := fun w => (hidx w).2.2.2.1
        have hi4 := fun w => (hidx w).2.2.2.2
        clear hidx
        have HPB := hid hpb
        clear hpb
        go_wp2_with fail
        rw [← HPB.out]
        generalize wr.alloc (.cells #[.int .i64 p0, .int .i64 p1, .int .i64 p2, .int .i64 p3, .int .i64 p4, .int .i64 p5, .int .i64 p6, .int .i64 p7, .int .i64 p8] 109) = W6 at *
        refine (bnumI_any bb (p0 - le) (ys) _ X6.out (by have := HLEN.out;  omega) (by omega)).mono ?_
        rintro r w7 ⟨rfl, hx, hol⟩
        have X7 := hid hx
        have F7 := hid (hol.heap (by omega) F0.out)
        have O7 := hid (O6.out.trans hol (by omega))
        have hz7 := hol.size
        have c7_0 : w7.cell? ⟨pb, 0, none⟩ = some (.int .i64 p0) := (cell_row (j := 0) F7.out).trans rfl
        have c7_1 : w7.cell? ⟨pb, 1, none⟩ = some (.int .i64 p1) := (cell_row (j := 1) F7.out).trans rfl
        have c7_2 : w7.cell? ⟨pb, 2, none⟩ = some (.int .i64 p2) := (cell_row (j := 2) F7.out).trans rfl
        have c7_3 : w7.cell? ⟨pb, 3, none⟩ = some (.int .i64 p3) := (cell_row (j := 3) F7.out).trans rfl
        have c7_4 : w7.cell? ⟨pb, 4, none⟩ = some (.int .i64 p4) := (cell_row (j := 4) F7.out).trans rfl
        have c7_5 : w7.cell? ⟨pb, 5, none⟩ = some (.int .i64 p5) := (cell_row (j := 5) F7.out).trans rfl
        have c7_6 : w7.cell? ⟨pb, 6, none⟩ = some (.int .i64 p6) := (cell_row (j := 6) F7.out).trans rfl
        have c7_7 : w7.cell? ⟨pb, 7, none⟩ = some (.int .i64 p7) := (cell_row (j := 7) F7.out).trans rfl
        have c7_8 : w7.cell? ⟨pb, 8, none⟩ = some (.int .i64 p8) := (cell_row (j := 8) F7.out).trans rfl
        clear hx hol
        go_wp2_with fail
        refine (bsigI_any bb p1 (ys ++ encU (p0 - le)) _ X7.out (by have := HLEN.out; have := HL0.out; simp [encU]; omega) (by omega)).mono ?_
        rintro r w8 ⟨rfl, hx, hol⟩
        have X8 := hid hx
        have F8 := hid (hol.heap (by omega) F7.out)
        have O8 := hid (O7.out.trans hol (by omega))
        have hz8 := hol.size
        have c8_0 : w8.cell? ⟨pb, 0, none⟩ = some (.int .i64 p0) := (cell_row (j := 0) F8.out).trans rfl
        have c8_1 : w8.cell? ⟨pb, 1, none⟩ = some (.int .i64 p1) := (cell_row (j := 1) F8.out).trans rfl
        have c8_2 : w8.cell? ⟨pb, 2, none⟩ = some (.int .i64 p2) := (cell_row (j := 2) F8.out).trans rfl
        have c8_3 : w8.cell? ⟨pb, 3, none⟩ = some (.int .i64 p3) := (cell_row (j := 3) F8.out).trans rfl
        have c8_4 : w8.cell? ⟨pb, 4, none⟩ = some (.int .i64 p4) := (cell_row (j := 4) F8.out).trans rfl
        have c8_5 : w8.cell? ⟨pb, 5, none⟩ = some (.int .i64 p5) := (cell_row (j := 5) F8.out).trans rfl
        have c8_6 : w8.cell? ⟨pb, 6, none⟩ = some (.int .i64 p6) := (cell_row (j := 6) F8.out).trans rfl
        have c8_7 : w8.cell? ⟨pb, 7, none⟩ = some (.int .i64 p7) := (cell_row (j := 7) F8.out).trans rfl
        have c8_8 : w8.cell? ⟨pb, 8, none⟩ = some (.int .i64 p8) := (cell_row (j := 8) F8.out).trans rfl
        clear hx hol c7_0 c7_1 c7_2 c7_3 c7_4 c7_5 c7_6 c7_7 c7_8
        go_wp2_with fail
        refine (bsigI_any bb p2 (ys ++ encU (p0 - le) ++ encS p1) _ X8.out (by have := HLEN.out; have := HL0.out; have := HL1.out; simp [encU, encS]; omega) (by omega)).mono ?_
        rintro r w9 ⟨rfl, hx, hol⟩
        have X9 := hid hx
        have F9 := hid (hol.heap (by omega) F8.out)
        have O9 := hid (O8.out.trans hol (by omega))
        have hz9 := hol.size
        have c9_0 : w9.cell? ⟨pb, 0, none⟩ = some (.int .i64 p0) := (cell_row (j := 0) F9.out).trans rfl
        have c9_1 : w9.cell? ⟨pb, 1, none⟩ = some (.int .i64 p1) := (cell_row (j := 1) F9.out).trans rfl
        have c9_2 : w9.cell? ⟨pb, 2, none⟩ = some (.int .i64 p2) := (cell_row (j := 2) F9.out).trans rfl
        have c9_3 : w9.cell? ⟨pb, 3, none⟩ = some (.int .i64 p3) := (cell_row (j := 3) F9.out).trans rfl
        have c9_4 : w9.cell? ⟨pb, 4, none⟩ = some (.int .i64 p4) := (cell_row (j := 4) F9.out).trans rfl
        have c9_5 : w9.cell? ⟨pb, 5, none⟩ = some (.int .i64 p5) := (cell_row (j := 5) F9.out).trans rfl
        have c9_6 : w9.cell? ⟨pb, 6, none⟩ = some (.int .i64 p6) := (cell_row (j := 6) F9.out).trans rfl
        have c9_7 : w9.cell? ⟨pb, 7, none⟩ = some (.int .i64 p7) := (cell_row (j := 7) F9.out).trans rfl
        have c9_8 : w9.cell? ⟨pb, 8, none⟩ = some (.int .i64 p8) := (cell_row (j := 8) F9.out).trans rfl
        clear hx hol c8_0 c8_1 c8_2 c8_3 c8_4 c8_5 c8_6 c8_7 c8_8
        go_wp2_with fail
        refine (bsigI_any bb p3 (ys ++ encU (p0 - le) ++ encS p1 ++ encS p2) _ X9.out (by have := HLEN.out; have := HL0.out; have := HL1.out; have := HL2.out; simp [encU, encS]; omega) (by omega)).mono ?_
        rintro r w10 ⟨rfl, hx, hol⟩
        have X10 := hid hx
        have F10 := hid (hol.heap (by omega) F9.out)
        have O10 := hid (O9.out.trans hol (by omega))
        have hz10 := hol.size
        have c10_0 : w10.cell? ⟨pb, 0, none⟩ = some (.int .i64 p0) := (cell_row (j := 0) F10.out).trans rfl
        have c10_1 : w10.cell? ⟨pb, 1, none⟩ = some (.int .i64 p1) := (cell_row (j := 1) F10.out).trans rfl
        have c10_2 : w10.cell? ⟨pb, 2, none⟩ = some (.int .i64 p2) := (cell_row (j := 2) F10.out).trans rfl
        have c10_3 : w10.cell? ⟨pb, 3, none⟩ = some (.int .i64 p3) := (cell_row (j := 3) F10.out).trans rfl
        have c10_4 : w10.cell? ⟨pb, 4, none⟩ = some (.int .i64 p4) := (cell_row (j := 4) F10.out).trans rfl
        have c10_5 : w10.cell? ⟨pb, 5, none⟩ = some (.int .i64 p5) := (cell_row (j := 5) F10.out).trans rfl
        have c10_6 : w10.cell? ⟨pb, 6, none⟩ = some (.int .i64 p6) := (cell_row (j := 6) F10.out).trans rfl
        have c10_7 : w10.cell? ⟨pb, 7, none⟩ = some (.int .i64 p7) := (cell_row (j := 7) F10.out).trans rfl
        have c10_8 : w10.cell? ⟨pb, 8, none⟩ = some (.int .i64 p8) := (cell_row (j := 8) F10.out).trans rfl
        clear hx hol c9_0 c9_1 c9_2 c9_3 c9_4 c9_5 c9_6 c9_7 c9_8
        go_wp2_with fail
        refine wp_loop_rounds 6 ?_
        rw [rounds_succ]
        go_wp2_with fail
        refine (bnumI_any bb (p4 - p3) (ys ++ encU (p0 - le) ++ encS p1 ++ encS p2 ++ encS p3) _ X10.out (by have := HLEN.out; have := HL0.out; have := HL1.out; have := HL2.out; have := HL3.out; simp [encU, encS]; omega) (by omega)).mono ?_
        rintro r w11 ⟨rfl, hx, hol⟩
        have X11 := hid hx
        have F11 := hid (hol.heap (by omega) F10.out)
        have O11 := hid (O10.out.trans hol (by omega))
        have hz11 := hol.size
        have c11_0 : w11.cell? ⟨pb, 0, none⟩ = some (.int .i64 p0) := (cell_row (j := 0) F11.out).trans rfl
        have c11_1 : w11.cell? ⟨pb, 1, none⟩ = some (.int .i64 p1) := (cell_row (j := 1) F11.out).trans rfl
        have c11_2 : w11.cell? ⟨pb, 2, none⟩ = some (.int .i64 p2) := (cell_row (j := 2) F11.out).trans rfl
        have c11_3 : w11.cell? ⟨pb, 3, none⟩ = some (.int .i64 p3) := (cell_row (j := 3) F11.out).trans rfl
        have c11_4 : w11.cell? ⟨pb, 4, none⟩ = some (.int .i64 p4) := (cell_row (j := 4) F11.out).trans rfl
        have c11_5 : w11.cell? ⟨pb, 5, none⟩ = some (.int .i64 p5) := (cell_row (j := 5) F11.out).trans rfl
        have c11_6 : w11.cell? ⟨pb, 6, none⟩ = some (.int .i64 p6) := (cell_row (j := 6) F11.out).trans rfl
        have c11_7 : w11.cell? ⟨pb, 7, none⟩ = some (.int .i64 p7) := (cell_row (j := 7) F11.out).trans rfl
        have c11_8 : w11.cell? ⟨pb, 8, none⟩ = some (.int .i64 p8) := (cell_row (j := 8) F11.out).trans rfl
        clear hx hol c10_0 c10_1 c10_2 c10_3 c10_4 c10_5 c10_6 c10_7 c10_8
        go_wp2_with fail
        rw [rounds_succ]
        go_wp2_with fail
        refine (bnumI_any bb p5 (ys ++ encU (p0 - le) ++ encS p1 ++ encS p2 ++ encS p3 ++ encU (p4 - p3)) _ X11.out (by have := HLEN.out; have := HL0.out; have := HL1.out; have := HL2.out; have := HL3.out; have := HL4.out; simp [encU, encS]; omega) (by omega)).mono ?_
        rintro r w12 ⟨rfl, hx, hol⟩
        have X12 := hid hx
        have F12 := hid (hol.heap (by omega) F11.out)
        have O12 := hid (O11.out.trans hol (by omega))
        have hz12 := hol.size
        have c12_0 : w12.cell? ⟨pb, 0, none⟩ = some (.int .i64 p0) := (cell_row (j := 0) F12.out).trans rfl
        have c12_1 : w12.cell? ⟨pb, 1, none⟩ = some (.int .i64 p1) := (cell_row (j := 1) F12.out).trans rfl
        have c12_2 : w12.cell? ⟨pb, 2, none⟩ = some (.int .i64 p2) := (cell_row (j := 2) F12.out).trans rfl
        have c12_3 : w12.cell? ⟨pb, 3, none⟩ = some (.int .i64 p3) := (cell_row (j := 3) F12.out).trans rfl
        have c12_4 : w12.cell? ⟨pb, 4, none⟩ = some (.int .i64 p4) := (cell_row (j := 4) F12.out).trans rfl
        have c12_5 : w12.cell? ⟨pb, 5, none⟩ = some (.int .i64 p5) := (cell_row (j := 5) F12.out).trans rfl
        have c12_6 : w12.cell? ⟨pb, 6, none⟩ = some (.int .i64 p6) := (cell_row (j := 6) F12.out).trans rfl
        have c12_7 : w12.cell? ⟨pb, 7, none⟩ = some (.int .i64 p7) := (cell_row (j := 7) F12.out).trans rfl
        have c12_8 : w12.cell? ⟨pb, 8, none⟩ = some (.int .i64 p8) := (cell_row (j := 8) F12.out).trans rfl
        clear hx hol c11_0 c11_1 c11_2 c11_3 c11_4 c11_5 c11_6 c11_7 c11_8
        go_wp2_with fail
        rw [rounds_succ]
        go_wp2_with fail
        refine (bnumI_any bb p6 (ys ++ encU (p0 - le) ++ encS p1 ++ encS p2 ++ encS p3 ++ encU (p4 - p3) ++ encU p5) _ X12.out (by have := HLEN.out; have := HL0.out; have := HL1.out; have := HL2.out; have := HL3.out; have := HL4.out; have := HL5.out; simp [encU, encS]; omega) (by omega)).mono ?_
        rintro r w13 ⟨rfl, hx, hol⟩
        have X13 := hid hx
        have F13 := hid (hol.heap (by omega) F12.out)
        have O13 := hid (O12.out.trans hol (by omega))
        have hz13 := hol.size
        have c13_0 : w13.cell? ⟨pb, 0, none⟩ = some (.int .i64 p0) := (cell_row (j := 0) F13.out).trans rfl
        have c13_1 : w13.cell? ⟨pb, 1, none⟩ = some (.int .i64 p1) := (cell_row (j := 1) F13.out).trans rfl
        have c13_2 : w13.cell? ⟨pb, 2, none⟩ = some (.int .i64 p2) := (cell_row (j := 2) F13.out).trans rfl
        have c13_3 : w13.cell? ⟨pb, 3, none⟩ = some (.int .i64 p3) := (cell_row (j := 3) F13.out).trans rfl
        have c13_4 : w13.cell? ⟨pb, 4, none⟩ = some (.int .i64 p4) := (cell_row (j := 4) F13.out).trans rfl
        have c13_5 : w13.cell? ⟨pb, 5, none⟩ = some (.int .i64 p5) := (cell_row (j := 5) F13.out).trans rfl
        have c13_6 : w13.cell? ⟨pb, 6, none⟩ = some (.int .i64 p6) := (cell_row (j := 6) F13.out).trans rfl
        have c13_7 : w13.cell? ⟨pb, 7, none⟩ = some (.int .i64 p7) := (cell_row (j := 7) F13.out).trans rfl
        have c13_8 : w13.cell? ⟨pb, 8, none⟩ = some (.int .i64 p8) := (cell_row (j := 8) F13.out).trans rfl
        clear hx hol c12_0 c12_1 c12_2 c12_3 c12_4 c12_5 c12_6 c12_7 c12_8
        go_wp2_with fail
        rw [rounds_succ]
        go_wp2_with fail
        refine (bnumI_any bb p7 (ys ++ encU (p0 - le) ++ encS p1 ++ encS p2 ++ encS p3 ++ encU (p4 - p3) ++ encU p5 ++ encU p6) _ X13.out (by have := HLEN.out; have := HL0.out; have := HL1.out; have := HL2.out; have := HL3.out; have := HL4.out; have := HL5.out; have := HL6.out; simp [encU, encS]; omega) (by omega)).mono ?_
        rintro r w14 ⟨rfl, hx, hol⟩
        have X14 := hid hx
        have F14 := hid (hol.heap (by omega) F13.out)
        have O14 := hid (O13.out.trans hol (by omega))
        have hz14 := hol.size
        have c14_0 : w14.cell? ⟨pb, 0, none⟩ = some (.int .i64 p0) := (cell_row (j := 0) F14.out).trans rfl
        have c14_1 : w14.cell? ⟨pb, 1, none⟩ = some (.int .i64 p1) := (cell_row (j := 1) F14.out).trans rfl
        have c14_2 : w14.cell? ⟨pb, 2, none⟩ = some (.int .i64 p2) := (cell_row (j := 2) F14.out).trans rfl
        have c14_3 : w14.cell? ⟨pb, 3, none⟩ = some (.int .i64 p3) := (cell_row (j := 3) F14.out).trans rfl
        have c14_4 : w14.cell? ⟨pb, 4, none⟩ = some (.int .i64 p4) := (cell_row (j := 4) F14.out).trans rfl
        have c14_5 : w14.cell? ⟨pb, 5, none⟩ = some (.int .i64 p5) := (cell_row (j := 5) F14.out).trans rfl
        have c14_6 : w14.cell? ⟨pb, 6, none⟩ = some (.int .i64 p6) := (cell_row (j := 6) F14.out).trans rfl
        have c14_7 : w14.cell? ⟨pb, 7, none⟩ = some (.int .i64 p7) := (cell_row (j := 7) F14.out).trans rfl
        have c14_8 : w14.cell? ⟨pb, 8, none⟩ = some (.int .i64 p8) := (cell_row (j := 8) F14.out).trans rfl
        clear hx hol c13_0 c13_1 c13_2 c13_3 c13_4 c13_5 c13_6 c13_7 c13_8
        go_wp2_with fail
        rw [rounds_succ]
        go_wp2_with fail
        refine (bnumI_any bb p8 (ys ++ encU (p0 - le) ++ encS p1 ++ encS p2 ++ encS p3 ++ encU (p4 - p3) ++ encU p5 ++ encU p6 ++ encU p7) _ X14.out (by have := HLEN.out; have := HL0.out; have := HL1.out; have := HL2.out; have := HL3.out; have := HL4.out; have := HL5.out; have := HL6.out; have := HL7.out; simp [encU, encS]; omega) (by omega)).mono ?_
        rintro r w15 ⟨rfl, hx, hol⟩
        have X15 := hid hx
        have F15 := hid (hol.heap (by omega) F14.out)
        have O15 := hid (O14.out.trans hol (by omega))
        have hz15 := hol.size
        have c15_0 : w15.cell? ⟨pb, 0, none⟩ = some (.int .i64 p0) := (cell_row (j := 0) F15.out).trans rfl
        have c15_1 : w15.cell? ⟨pb, 1, none⟩ = some (.int .i64 p1) := (cell_row (j := 1) F15.out).trans rfl
        have c15_2 : w15.cell? ⟨pb, 2, none⟩ = some (.int .i64 p2) := (cell_row (j := 2) F15.out).trans rfl
        have c15_3 : w15.cell? ⟨pb, 3, none⟩ = some (.int .i64 p3) := (cell_row (j := 3) F15.out).trans rfl
        have c15_4 : w15.cell? ⟨pb, 4, none⟩ = some (.int .i64 p4) := (cell_row (j := 4) F15.out).trans rfl
        have c15_5 : w15.cell? ⟨pb, 5, none⟩ = some (.int .i64 p5) := (cell_row (j := 5) F15.out).trans rfl
        have c15_6 : w15.cell? ⟨pb, 6, none⟩ = some (.int .i64 p6) := (cell_row (j := 6) F15.out).trans rfl
        have c15_7 : w15.cell? ⟨pb, 7, none⟩ = some (.int .i64 p7) := (cell_row (j := 7) F15.out).trans rfl
        have c15_8 : w15.cell? ⟨pb, 8, none⟩ = some (.int .i64 p8) := (cell_row (j := 8) F15.out).trans rfl
        clear hx hol c14_0 c14_1 c14_2 c14_3 c14_4 c14_5 c14_6 c14_7 c14_8
        go_wp2_with fail
        rw [rounds_succ]
        go_wp2_with fail
        refine ⟨⟨k + 1, by omega, by go_num, by rw [HTN.out, HEN.out], by rw [HTN.out, HES.out, ← HD.out]; exact X15.out, HO5.out.trans O15.out HO5.out.size, HB5.out.trans (O15.out.below (B := w.heap.size) hwb hz5)⟩, by simp [intOf]; omega⟩
      · obtain rfl : k = n := by omega
        have HTK := hid (show L.take k = L by rw [← HLN.out]; exact List.take_length)
        rw [HTK.out] at X5
        obtain ⟨bv, hbr, hbo⟩ := X5.out
        have HBR := hid hbr
        have HEDL := hid (encDB_len HGL.out HASC.out)
        have HCK := hid (checked_own (bb + 1) _ bv (encDB L) wr hbo.1 (by omega) (by have := HEDL.out; show (encDB L).length ≤ 900000; omega) (encDB_byte L))
        obtain ⟨pb, nb, cb, rfl⟩ := hbo.shape
        have c0 : wr.cell? ⟨bb, 0, none⟩ = some (.slice pb nb cb) := (cell_row (j := 0) hbr).trans rfl
        have d1 : decide ((k : Int) < (k : Int)) = false := by simp
        clear hbr hbo
        go_wp2_with fail
        refine HCK.out.mono ?_
        rintro r w9 ⟨⟨v9, rfl, ho9⟩, hb9⟩
        have HO9 := hid (show OwnB w9 w.heap.size v9 (encD L) from ho9.base (by omega))
        have HB9 := hid (HB5.out.trans (hb9.mono (by omega)))
        clear ho9 hb9
        go_wp2_with fail
        go_ret2
        exact ⟨Or.inl ⟨HGT.out, v9, L, rfl, HPERM.out, HASC.out, HO9.out⟩, HB9.out⟩
end Go.Proofs.YtpfighhhemnhaaaGreat

/- Recv -/
namespace Go.Proofs.YtpfighhhemnhaaaGreat
open Go.RowKit Go.Sort

def refusedD : Ending := .returned (.tuple #[.slice none 0 0, .int .i64 4])
def GotP (P : List Pt) (r : Ending) (w' : World) : Prop := ∃ v, r = .returned (.tuple #[v, .int .i64 0]) ∧ PtsV w' v P
theorem ptY_id {l : Int} {s s' : St} {p : Pt} (hp : ptY l s = (p, s')) (hl : 0 ≤ l) (hb : s'.bad = false) : 0 ≤ p.id ∧ p.id ≤ 1152921504606846976 := by
  have q0 := nextU_range s
  have h1 : l + (nextS false s).1 = p.id := congrArg (fun x => x.1.id) hp
  have h2 : (ptY l s).2.bad = false := by rw [hp]; exact hb
  refine ⟨by omega, Int.not_lt.1 fun hbig => ?_⟩
  have h3 : (ptY l s).2.bad = true := by
    unfold ptY
    simp only
    rw [if_pos (Or.inl (by omega))]
    rfl
  rw [h2] at h3
  exact Bool.noConfusion h3
set_option maxRecDepth 100000 in
set_option maxHeartbeats 12800000 in
theorem xReceive_long (b off n cap : Nat) (l : List Nat) (w : World) (hbw : b < w.heap.size) (hl : ∀ x ∈ l, x < 256) (hn : l.length = n + 4) (hx : n ≤ 800000) (hnc : n + 4 ≤ cap) (hc : cap ≤ 9223372036854775807) (hb : bytesAt w b off l.length (fun i => l.getD i 0)) :
    Calls Tryz.prog 32 #[.slice (some ⟨b, off, none⟩) (n + 4 : Nat) cap] w fun r w' => ((OkY l n ∧ GotP (delY (stL (l.take n))).1 r w') ∨ (¬ OkY l n ∧ r = refusedD)) ∧ Below w.heap.size w w' := by
  have HLB := hid hl
  have HBY := hid hb
  have HN := hid hn
  have HTL := hid (show (l.take n).length = n by rw [List.length_take, hn]; omega)
  have HTB := hid (show ∀ x ∈ l.take n, x < 256 from fun x hx => hl x (List.mem_of_mem_take hx))
  have HBT := hid (show bytesAt w b off (l.take n).length (fun i => (l.take n).getD i 0) from fun i hi => by
    rw [HTL.out] at hi
    rw [hb i (by omega)]
    show some (Value.int .u8 ((l.getD i 0 : Nat) : Int)) = some (Value.int .u8 (((l.take n).getD i 0 : Nat) : Int))
    rw [List.getD_eq_getElem?_getD, List.getD_eq_getElem?_getD, List.getElem?_take_of_lt hi])
  have HSUM := hid (sumOk_iff hl hn)
  have HCL := hid (bclone_any b off n cap (l.take n) w HTL.out (by omega) hbw HBT.out)
  have HOK := hid (show OkY l n ↔ SumOk l n ∧ (nextS false (stL (l.take n))).1 ≤ 1024 ∧ (delY (stL (l.take n))).2.bad = false ∧ (delY (stL (l.take n))).2.m = 0 ∧ goodL (delY (stL (l.take n))).1 = true from Iff.rfl)
  obtain ⟨OK, hok⟩ : ∃ OK : Prop, OK = OkY l n := ⟨_, rfl⟩
  rw [← hok] at HOK ⊢
  rcases e0 : nextS false (stL (l.take n)) with ⟨v0, s1⟩
  have q0 := nextU_range (stL (l.take n))
  rw [e0] at q0
  simp only at q0
  obtain ⟨D, hD⟩ : ∃ D, D = delY (stL (l.take n)) := ⟨_, rfl⟩
  have HDY := hid (show D = ptsY v0.toNat 0 s1 by rw [hD]; unfold delY; rw [e0])
  rw [← hD, e0] at HOK
  rw [← hD]
  have E0 := hid e0
  clear e0 hD
  simp only at HOK
  have d4 : decide (((n : Int) + 4) < 4) = false := decide_eq_false (by omega)
  clear hl hb hn hok
  go_enter Tryz.func32, Tryz.ntmps32
  go_wp2_with fail
  refine HCL.out.mono ?_
  rintro r w1 ⟨⟨v1, rfl, ho1⟩, hb1⟩
  have HCK := hid (checked_own w.heap.size n v1 (l.take n) w1 ho1 hb1.size (by omega) HTB.out)
  obtain ⟨a1, m1, c1, rfl⟩ : ∃ a m c, v1 = .slice a m c := by
    rcases (row_cases ho1).2 with ⟨rfl, _⟩ | ⟨g, cap, rfl, _⟩
    · exact ⟨_, _, _, rfl⟩
    · exact ⟨_, _, _, rfl⟩
  have HB1 := hid hb1
  have hz1 := hb1.size
  clear ho1 hb1
  go_wp2_with fail
  refine HCK.out.mono ?_
  rintro r w2 ⟨⟨v2, rfl, ho2⟩, hb2⟩
  have HB2 := hid (HB1.out.trans hb2)
  have HEQ := hid (bequal_any v2 (.slice (some ⟨b, off, none⟩) (n + 4 : Nat) cap) (l.take n ++ bytes4 (crcL (l.take n))) l w2 ho2.bytes ⟨_, _, by rw [HN.out], Or.inr ⟨b, off, rfl, Nat.lt_of_lt_of_le hbw HB2.out.size, bytes_still HBY.out hbw HB2.out⟩⟩ (by simp [bytes4, HTL.out]; omega))
  obtain ⟨a2, m2, c2, rfl⟩ := ho2.shape
  have hz2 := HB2.out.size
  clear ho2 hb2
  go_wp2_with fail
  refine HEQ.out.mono ?_
  rintro r w3 ⟨rfl, hb3⟩
  have HB3 := hid (HB2.out.trans (hb3.mono hz2))
  have hz3 := HB3.out.size
  clear hb3
  cases hsb : decide (l.take n ++ bytes4 (crcL (l.take n)) = l)
  · have HNO := hid (show ¬ OK from fun h => of_decide_eq_false hsb (HSUM.out.1 (HOK.out.1 h).1).symm)
    clear hsb
    go_wp2_with fail
    go_ret2
    exact ⟨Or.inr ⟨HNO.out, rfl⟩, HB3.out⟩
  · have HSY := hid (HSUM.out.2 (of_decide_eq_true hsb).symm)
    clear hsb
    obtain ⟨rb, hrb⟩ : ∃ rb, rb = w3.heap.size := ⟨_, rfl⟩
    have R3 := hid (rd_start (n := n) (cap := cap) (rb := rb) (l := l) (b := b) (off := off) (ty := 200) (w := w3.alloc (.cells #[.slice (some ⟨b, off, none⟩) n cap, .bool false] 200))
      (bytes_still HBY.out hbw (HB3.out.alloc hz3 _)) HLB.out (by rw [HN.out]; omega) (by omega) hc (by simp; omega) (heap_alloc_at _ _ _ hrb) (by omega))
    have HBW := hid (HB3.out.alloc hz3 (.cells #[.slice (some ⟨b, off, none⟩) n cap, .bool false] 200))
    have hzr : (w3.alloc (.cells #[.slice (some ⟨b, off, none⟩) n cap, .bool false] 200)).heap.size = rb + 1 := by simp [hrb]
    have hwr : w.heap.size ≤ rb := by omega
    have HRB := hid hrb
    clear hrb
    go_wp2_with fail
    rw [← HRB.out]
    generalize w3.alloc (.cells #[.slice (some ⟨b, off, none⟩) n cap, .bool false] 200) = W3 at *
    refine (unum_at _ E0.out R3.out).mono ?_
    rintro r w4 ⟨rfl, hrd, hol⟩
    have R4 := hid hrd
    have HB4 := hid (HBW.out.trans (hol.below (B := w.heap.size) hwr (by omega)))
    have hz4 := hol.size
    clear hrd hol
    by_cases hbig : 1024 < v0
    · have d0 : decide ((1024 : Int) < v0) = true := decide_eq_true hbig
      have HNO := hid (show ¬ OK from fun h => by have := (HOK.out.1 h).2.1; omega)
      clear hbig
      go_wp2_with fail
      go_ret2
      exact ⟨Or.inr ⟨HNO.out, rfl⟩, HB4.out⟩
    · have d0 : decide ((1024 : Int) < v0) = false := decide_eq_false hbig
      obtain ⟨N, rfl⟩ : ∃ N : Nat, v0 = N := ⟨v0.toNat, by omega⟩
      rw [Int.toNat_natCast] at HDY
      have hN1 : N ≤ 1024 := by omega
      obtain ⟨i0, hi, hy0, hy1, hy2⟩ := info_parts info36
      have HI := hid hi
      have HZ0 := hid hy0
      have HZ1 := hid hy1
      have HZ2 := hid hy2
      clear hbig hi hy0 hy1 hy2
      go_wp2_with fail
      go_loopw [6, 7, 36] (fun ov' lv iv W => ∃ (i : Nat) (A : List Pt) (l0 : Int) (s2 : St) (oa : Option Addr) (on oc : Nat), ov' = .slice oa on oc ∧ i ≤ N ∧ A.length = i ∧ iv = .int .i64 (i : Int) ∧ lv = .int .i64 l0 ∧ OwnP W (rb + 1) (.slice oa on oc) A ∧ RdAt W rb 200 b s2 ∧ Below w.heap.size w W ∧ (0 ≤ l0 ∧ l0 ≤ 1152921504606846976) ∧ ptsY N 0 s1 = (A ++ (ptsY (N - i) l0 s2).1, (ptsY (N - i) l0 s2).2)) (fun _ _ iv _ => N - (intOf iv).toNat)
      case atStart => exact ⟨0, [], 0, s1, none, 0, 0, rfl, by omega, rfl, rfl, rfl, OwnR.nil _ _ _ _, R4.out, HB4.out, ⟨Int.le_refl _, by decide⟩, rfl⟩
      case round =>
        obtain ⟨i, A, l0, s2, oa, on, oc, rfl, hi, hA, rfl, rfl, hown, hrd, hbl, hl0, he⟩ := hrel
        have HA := hid hA
        have HO := hid hown
        have R5 := hid hrd
        have HB5 := hid hbl
        have HE := hid he
        have hz5 := hbl.size
        have hrbw := hrd.rb_lt
        clear hA hown hrd hbl he
        by_cases hlt : i < N
        · have d1 : decide ((i : Int) < (N : Int)) = true := decide_eq_true (by omega)
          rcases hp : ptY l0 s2 with ⟨⟨q0, q1, q2, q3, q4, q5, q6, q7, q8⟩, s3⟩
          have HPQ := hid hp
          clear hp
          go_wp2_with fail
          have HPT := hid (point_any rb b l0 s2 wr R5.out hl0)
          rw [HPQ.out] at HPT
          simp only [Pt.row] at HPT
          refine HPT.out.mono ?_
          rintro r w6 ⟨rfl, hrd, hol⟩
          have HID := hid (fun h => ptY_id HPQ.out hl0.1 h)
          have HNX := hid (fun h => ptsY_next (f := N - (i + 1)) HPQ.out h)
          have HBA := hid (fun h => ptsY_bad (f := N - (i + 1)) HPQ.out h)
          simp only at HID HNX
          have R6 := hid (hrd.alloc (.cells #[.int .i64 q0, .int .i64 q1, .int .i64 q2, .int .i64 q3, .int .i64 q4, .int .i64 q5, .int .i64 q6, .int .i64 q7, .int .i64 q8] 109))
          have hz6 := hol.size
          have O6 := hid hol
          have HB6 := hid ((HB5.out.trans (hol.below (B := w.heap.size) hwr hz5)).alloc (by omega) (.cells #[.int .i64 q0, .int .i64 q1, .int .i64 q2, .int .i64 q3, .int .i64 q4, .int .i64 q5, .int .i64 q6, .int .i64 q7, .int .i64 q8] 109))
          have HO6 := hid (OwnR.grow (W' := w6.alloc (.cells #[.int .i64 q0, .int .i64 q1, .int .i64 q2, .int .i64 q3, .int .i64 q4, .int .i64 q5, .int .i64 q6, .int .i64 q7, .int .i64 q8] 109)) (HO.out.only hol (Nat.le_refl _) (by omega)) ((Below.refl _ _).alloc (Nat.le_refl _) _) : OwnP _ (rb + 1) (.slice oa on oc) A)
          have F6 := hid (heap_alloc_at w6 (.cells #[.int .i64 q0, .int .i64 q1, .int .i64 q2, .int .i64 q3, .int .i64 q4, .int .i64 q5, .int .i64 q6, .int .i64 q7, .int .i64 q8] 109) _ rfl)
          have hzz : (w6.alloc (.cells #[.int .i64 q0, .int .i64 q1, .int .i64 q2, .int .i64 q3, .int .i64 q4, .int .i64 q5, .int .i64 q6, .int .i64 q7, .int .i64 q8] 109)).heap.size = w6.heap.size + 1 := by simp
          have hpr : rb < w6.heap.size := by omega
          clear hrd hol
          have x1 := R6.out.flag.1
          cases hbad : s3.bad
          · rw [hbad] at x1
            have hidb := HID.out hbad
            have HNX2 := hid (HNX.out hbad)
            clear hbad HID HNX HBA
            have d1x : (w6.alloc (.cells #[.int .i64 q0, .int .i64 q1, .int .i64 q2, .int .i64 q3, .int .i64 q4, .int .i64 q5, .int .i64 q6, .int .i64 q7, .int .i64 q8] 109)).cell? ⟨w6.heap.size, 0, none⟩ = some (.int .i64 q0) := (cell_row (j := 0) F6.out).trans rfl
            have d2x : (w6.alloc (.cells #[.int .i64 q0, .int .i64 q1, .int .i64 q2, .int .i64 q3, .int .i64 q4, .int .i64 q5, .int .i64 q6, .int .i64 q7, .int .i64 q8] 109)).cell? ⟨w6.heap.size, 1, none⟩ = some (.int .i64 q1) := (cell_row (j := 1) F6.out).trans rfl
            have d3x : (w6.alloc (.cells #[.int .i64 q0, .int .i64 q1, .int .i64 q2, .int .i64 q3, .int .i64 q4, .int .i64 q5, .int .i64 q6, .int .i64 q7, .int .i64 q8] 109)).cell? ⟨w6.heap.size, 2, none⟩ = some (.int .i64 q2) := (cell_row (j := 2) F6.out).trans rfl
            have d4x : (w6.alloc (.cells #[.int .i64 q0, .int .i64 q1, .int .i64 q2, .int .i64 q3, .int .i64 q4, .int .i64 q5, .int .i64 q6, .int .i64 q7, .int .i64 q8] 109)).cell? ⟨w6.heap.size, 3, none⟩ = some (.int .i64 q3) := (cell_row (j := 3) F6.out).trans rfl
            have d5x : (w6.alloc (.cells #[.int .i64 q0, .int .i64 q1, .int .i64 q2, .int .i64 q3, .int .i64 q4, .int .i64 q5, .int .i64 q6, .int .i64 q7, .int .i64 q8] 109)).cell? ⟨w6.heap.size, 4, none⟩ = some (.int .i64 q4) := (cell_row (j := 4) F6.out).trans rfl
            have d6x : (w6.alloc (.cells #[.int .i64 q0, .int .i64 q1, .int .i64 q2, .int .i64 q3, .int .i64 q4, .int .i64 q5, .int .i64 q6, .int .i64 q7, .int .i64 q8] 109)).cell? ⟨w6.heap.size, 5, none⟩ = some (.int .i64 q5) := (cell_row (j := 5) F6.out).trans rfl
            have d7x : (w6.alloc (.cells #[.int .i64 q0, .int .i64 q1, .int .i64 q2, .int .i64 q3, .int .i64 q4, .int .i64 q5, .int .i64 q6, .int .i64 q7, .int .i64 q8] 109)).cell? ⟨w6.heap.size, 6, none⟩ = some (.int .i64 q6) := (cell_row (j := 6) F6.out).trans rfl
            have d8x : (w6.alloc (.cells #[.int .i64 q0, .int .i64 q1, .int .i64 q2, .int .i64 q3, .int .i64 q4, .int .i64 q5, .int .i64 q6, .int .i64 q7, .int .i64 q8] 109)).cell? ⟨w6.heap.size, 7, none⟩ = some (.int .i64 q7) := (cell_row (j := 7) F6.out).trans rfl
            have d9x : (w6.alloc (.cells #[.int .i64 q0, .int .i64 q1, .int .i64 q2, .int .i64 q3, .int .i64 q4, .int .i64 q5, .int .i64 q6, .int .i64 q7, .int .i64 q8] 109)).cell? ⟨w6.heap.size, 8, none⟩ = some (.int .i64 q8) := (cell_row (j := 8) F6.out).trans rfl
            have HRK := hid (RowsAt.one (heap_alloc_at (w6.alloc (.cells #[.int .i64 q0, .int .i64 q1, .int .i64 q2, .int .i64 q3, .int .i64 q4, .int .i64 q5, .int .i64 q6, .int .i64 q7, .int .i64 q8] 109)) _ _ (by simp)) : RowsAt ((w6.alloc (.cells #[.int .i64 q0, .int .i64 q1, .int .i64 q2, .int .i64 q3, .int .i64 q4, .int .i64 q5, .int .i64 q6, .int .i64 q7, .int .i64 q8] 109)).alloc (.cells #[.int .i64 q0, .int .i64 q1, .int .i64 q2, .int .i64 q3, .int .i64 q4, .int .i64 q5, .int .i64 q6, .int .i64 q7, .int .i64 q8] 109)) (w6.heap.size + 1) 0 9 [[.int .i64 q0, .int .i64 q1, .int .i64 q2, .int .i64 q3, .int .i64 q4, .int .i64 q5, .int .i64 q6, .int .i64 q7, .int .i64 q8]])
            have HOA := hid (OwnR.grow (W' := (w6.alloc (.cells #[.int .i64 q0, .int .i64 q1, .int .i64 q2, .int .i64 q3, .int .i64 q4, .int .i64 q5, .int .i64 q6, .int .i64 q7, .int .i64 q8] 109)).alloc (.cells #[.int .i64 q0, .int .i64 q1, .int .i64 q2, .int .i64 q3, .int .i64 q4, .int .i64 q5, .int .i64 q6, .int .i64 q7, .int .i64 q8] 109)) HO6.out ((Below.refl _ _).alloc (Nat.le_refl _) _) : OwnR _ (rb + 1) 109 9 (.slice oa on oc) (A.map Pt.row))
            have RB := hid (R6.out.alloc (.cells #[.int .i64 q0, .int .i64 q1, .int .i64 q2, .int .i64 q3, .int .i64 q4, .int .i64 q5, .int .i64 q6, .int .i64 q7, .int .i64 q8] 109))
            have OB := hid (HB6.out.alloc HB6.out.size (.cells #[.int .i64 q0, .int .i64 q1, .int .i64 q2, .int .i64 q3, .int .i64 q4, .int .i64 q5, .int .i64 q6, .int .i64 q7, .int .i64 q8] 109))
            have HL1 := hid (show (A.map Pt.row).length + 1 ≤ maxLen by rw [List.length_map, HA.out]; unfold maxLen; omega)
            have HL2 := hid (show ((A.map Pt.row).length + 1) * 72 ≤ 140737488355328 by rw [List.length_map, HA.out]; omega)
            have HBS := hid (show rb + 1 ≤ ((w6.alloc (.cells #[.int .i64 q0, .int .i64 q1, .int .i64 q2, .int .i64 q3, .int .i64 q4, .int .i64 q5, .int .i64 q6, .int .i64 q7, .int .i64 q8] 109)).alloc (.cells #[.int .i64 q0, .int .i64 q1, .int .i64 q2, .int .i64 q3, .int .i64 q4, .int .i64 q5, .int .i64 q6, .int .i64 q7, .int .i64 q8] 109)).heap.size by simp; omega)
            go_wp2_with (first
              | (at_builtin
                 go_loud (refine wpList_append_rows rfl (.tmp 47) (.tmp 49) 73 rfl (rb + 1) 109 i0 _ 9 72 Tryz.underlying73 HI.out HZ0.out HZ1.out HZ2.out rfl (by decide) _ (A.map Pt.row) [[.int .i64 q0, .int .i64 q1, .int .i64 q2, .int .i64 q3, .int .i64 q4, .int .i64 q5, .int .i64 q6, .int .i64 q7, .int .i64 q8]] rfl HOA.out (w6.heap.size + 1) 0 1 1 rfl rfl HRK.out (wide9d _ _ _ _ _ _ _ _ _) HL1.out HL2.out HBS.out ?_)
                 intro v10 W7 hown6 hg6 z6
                 clear z6
                 have HO7 := hid (show OwnP W7 (rb + 1) v10 (A ++ [⟨q0, q1, q2, q3, q4, q5, q6, q7, q8⟩]) by unfold OwnP; rw [List.map_append]; exact hown6)
                 have R7 := hid (RB.out.kept hg6 (fun e => by have := OwnR.ownBlock HOA.out rb e.symm; omega) (fun e => by have h1 := OwnR.ownBlock HOA.out b e.symm; omega))
                 have HB7 := hid (OB.out.grown hg6 (by have := OB.out.size; omega) (fun k e => by have := OwnR.ownBlock HOA.out k e; omega))
                 clear hown6 hg6))
            obtain ⟨oa6, oc6, hv6⟩ := HO7.out.slice
            refine ⟨⟨i + 1, A ++ [⟨q0, q1, q2, q3, q4, q5, q6, q7, q8⟩], q0, s3, oa6, _, oc6, hv6, by omega, by simp [HA.out], by go_num, rfl, hv6 ▸ HO7.out, R7.out, HB7.out, hidb, ?_⟩, by simp [intOf]; omega⟩
            rw [HE.out, show N - i = (N - (i + 1)) + 1 by omega, HNX2.out]
            simp
          · rw [hbad] at x1
            have HNO := hid (show ¬ OK from fun h => by
              have h2 := (HOK.out.1 h).2.2.1
              have h3 := HBA.out hbad
              rw [HDY.out, HE.out, show N - i = (N - (i + 1)) + 1 by omega, h3] at h2
              exact Bool.noConfusion (h2.symm.trans hbad))
            clear hbad HID HNX HBA
            go_wp2_with fail
            go_ret2
            exact ⟨Or.inr ⟨HNO.out, rfl⟩, HB6.out⟩
        · obtain rfl : i = N := by omega
          have HF := hid (show ptsY i 0 s1 = (A, s2) by rw [HE.out, Nat.sub_self]; simp [ptsY])
          have HDD := hid (HDY.out.trans HF.out)
          rw [HDD.out] at HOK
          simp only at HOK
          have d1 : decide ((i : Int) < (i : Int)) = false := by simp
          have x1 := R5.out.flag.1
          obtain ⟨m5, hm5⟩ : ∃ m5, m5 = s2.m := ⟨_, rfl⟩
          rw [← hm5] at HOK
          obtain ⟨so, sc, x0⟩ : ∃ so sc, wr.cell? ⟨rb, 0, none⟩ = some (.slice (some ⟨b, so, none⟩) m5 sc) := by
            obtain ⟨o, c, hr, _⟩ := R5.out
            exact ⟨o, c, by rw [cell_row hr, hm5]; rfl⟩
          clear hm5
          have HGD := hid (goods_any (.slice oa on oc) A wr (OwnP.ptsV HO.out) (by rw [HA.out]; unfold maxLen; omega))
          cases hbad : s2.bad
          · rw [hbad] at x1 HOK
            clear hbad
            by_cases hm : m5 = 0
            · subst hm
              go_wp2_with fail
              refine HGD.out.mono ?_
              rintro r w8 ⟨rfl, hb8⟩
              have HB8 := hid (HB5.out.trans (hb8.mono hz5))
              have HP8 := hid ((OwnP.ptsV HO.out).still hb8)
              clear hb8
              cases hg : goodL A
              · have HNO := hid (show ¬ OK from fun h => by have h2 := (HOK.out.1 h).2.2.2.2; rw [hg] at h2; exact Bool.noConfusion h2)
                clear hg
                go_wp2_with fail
                go_ret2
                exact ⟨Or.inr ⟨HNO.out, rfl⟩, HB8.out⟩
              · have HYES := hid (show OK from HOK.out.2 ⟨HSY.out, by omega, by first | rfl | trivial, by first | rfl | trivial, hg⟩)
                clear hg
                go_wp2_with fail
                go_ret2
                exact ⟨Or.inl ⟨HYES.out, _, rfl, by rw [HDD.out]; exact HP8.out⟩, HB8.out⟩
            · have d2 : decide ((0 : Int) < (m5 : Int)) = true := decide_eq_true (by omega)
              have HNO := hid (show ¬ OK from fun h => hm (HOK.out.1 h).2.2.2.1)
              have hm0 : 0 < m5 := by omega
              clear hm
              go_wp2_with fail
              go_ret2
              exact ⟨Or.inr ⟨HNO.out, rfl⟩, HB5.out⟩
          · rw [hbad] at x1 HOK
            clear hbad
            have HNO := hid (show ¬ OK from fun h => by have h2 := (HOK.out.1 h).2.2.1; exact Bool.noConfusion h2)
            go_wp2_with fail
            go_ret2
            exact ⟨Or.inr ⟨HNO.out, rfl⟩, HB5.out⟩
end Go.Proofs.YtpfighhhemnhaaaGreat

/- PAwake -/
namespace Go.Proofs.YtpfighhhemnhaaaGreat
open Go.RowKit Go.Sort

def p7 : Pt := ⟨7, 1, 0, 2, 3, 0, 1, 1, 2⟩
theorem p7_good : goodL [p7] = true := by kernel_rfl
theorem perm_one {α : Type} {L : List α} {p : α} (h : L.Perm [p]) : L = [p] := List.perm_singleton.1 h
set_option maxRecDepth 100000 in
set_option maxHeartbeats 3200000 in
theorem pawake_any (w : World) : Calls Tryz.prog 7 #[] w fun r w' => r = .returned (.bool true) ∧ Below w.heap.size w w' := by
  have HW1 := hid (show Below w.heap.size w ((w.alloc (.cells #[.int .i64 7, .int .i64 1, .int .i64 0, .int .i64 2, .int .i64 3, .int .i64 0, .int .i64 1, .int .i64 1, .int .i64 2] 109)).alloc (.cells #[.int .i64 7, .int .i64 1, .int .i64 0, .int .i64 2, .int .i64 3, .int .i64 0, .int .i64 1, .int .i64 1, .int .i64 2] 109)) from (Below.alloc (Below.refl _ _) (Nat.le_refl _) _).alloc (by simp) _)
  have HF1 := hid (show ((w.alloc (.cells #[.int .i64 7, .int .i64 1, .int .i64 0, .int .i64 2, .int .i64 3, .int .i64 0, .int .i64 1, .int .i64 1, .int .i64 2] 109)).alloc (.cells #[.int .i64 7, .int .i64 1, .int .i64 0, .int .i64 2, .int .i64 3, .int .i64 0, .int .i64 1, .int .i64 1, .int .i64 2] 109)).heap[w.heap.size]? = some (.cells #[.int .i64 7, .int .i64 1, .int .i64 0, .int .i64 2, .int .i64 3, .int .i64 0, .int .i64 1, .int .i64 1, .int .i64 2] 109) from heap_alloc_past _ _ _ _ (heap_alloc_at _ _ _ rfl))
  have HP1 := hid (show PtsV ((w.alloc (.cells #[.int .i64 7, .int .i64 1, .int .i64 0, .int .i64 2, .int .i64 3, .int .i64 0, .int .i64 1, .int .i64 1, .int .i64 2] 109)).alloc (.cells #[.int .i64 7, .int .i64 1, .int .i64 0, .int .i64 2, .int .i64 3, .int .i64 0, .int .i64 1, .int .i64 1, .int .i64 2] 109)) (.slice (some ⟨w.heap.size + 1, 0, none⟩) 1 1) [p7] from
    ⟨some ⟨w.heap.size + 1, 0, none⟩, 1, rfl, Or.inr ⟨_, 0, rfl, by simp, RowsAt.one (heap_alloc_at _ _ _ (by simp))⟩⟩)
  go_enter Tryz.func7, Tryz.ntmps7
  go_wp2_with fail
  generalize (w.alloc (.cells #[.int .i64 7, .int .i64 1, .int .i64 0, .int .i64 2, .int .i64 3, .int .i64 0, .int .i64 1, .int .i64 1, .int .i64 2] 109)).alloc (.cells #[.int .i64 7, .int .i64 1, .int .i64 0, .int .i64 2, .int .i64 3, .int .i64 0, .int .i64 1, .int .i64 1, .int .i64 2] 109) = W1 at *
  have hz1 := HW1.out.size
  refine (xShip_any _ [p7] _ HP1.out (by simp [maxLen])).mono ?_
  rintro r w2 ⟨hres, hb2⟩
  rcases hres with ⟨_, v2, L, rfl, hperm, _, ho2⟩ | ⟨hg, _⟩
  rotate_left
  · rw [p7_good] at hg; exact Bool.noConfusion hg
  obtain rfl := perm_one hperm
  have hlong := encD_long [p7]
  have hlb := encDB_len p7_good (List.pairwise_singleton _ _)
  have hlen : (encD [p7]).length = (encDB [p7]).length + 4 := by simp [encD, bytes4]
  have HB2 := hid (HW1.out.trans (hb2.mono hz1))
  have HF2 := hid (heap_still hb2 HF1.out)
  have hz2 := HB2.out.size
  obtain ⟨g9, cap9, rfl, hc9, hm9, hby9, hg9, hgz9⟩ := ownB_at ho2 (by omega)
  have HRC := hid (xReceive_long g9 0 (encDB [p7]).length cap9 (encD [p7]) w2 hgz9 (encD_byte _) hlen (by omega) (by omega) hm9 hby9)
  have HOK := hid ((okY_iff (encD_byte [p7]) hlen).2 ⟨p7_good, List.pairwise_singleton _ _, rfl⟩)
  rw [hlen] at hlong ⊢
  generalize (encDB [p7]).length = n at *
  generalize encD [p7] = ET at *
  clear hb2 hperm ho2 hby9 hlb hlen
  have d4 : decide ((4 : Int) < ((n : Int) + 4)) = true := decide_eq_true (by omega)
  have hn0 : 0 < n := by omega
  go_wp2_with fail
  refine HRC.out.mono ?_
  rintro r w3 ⟨⟨_, hgot⟩ | ⟨hno, _⟩, hb3⟩
  rotate_left
  · exact absurd HOK.out.1 hno
  rw [HOK.out.2] at hgot
  obtain ⟨v3, rfl, a3, c3, rfl, h3⟩ := hgot
  obtain ⟨b3, o3, rfl, hbw3, hrows⟩ := h3.resolve_left (by simp)
  have HB3 := hid (HB2.out.trans (hb3.mono hz2))
  have HF3 := hid (heap_still hb3 HF2.out)
  have hz3 := HB3.out.size
  have hcs : ∀ j, j < 9 → w3.cell? ⟨b3, o3 + 0 * 9 + j, none⟩ = some (.int .i64 (p7.f j)) := fun j hj => by
    rw [hrows 0 p7.row rfl j hj, Pt.row_at p7 j hj]
  simp only [Nat.zero_mul, Nat.add_zero] at hcs
  have a0 := fun d os => cell_regrown (show w3.cell? ⟨b3, o3, none⟩ = some (.int .i64 7) from hcs 0 (by decide)) d os
  have a1 := fun d os => cell_regrown (show w3.cell? ⟨b3, o3 + 1, none⟩ = some (.int .i64 1) from hcs 1 (by decide)) d os
  have a2 := fun d os => cell_regrown (show w3.cell? ⟨b3, o3 + 2, none⟩ = some (.int .i64 0) from hcs 2 (by decide)) d os
  have a3 := fun d os => cell_regrown (show w3.cell? ⟨b3, o3 + 3, none⟩ = some (.int .i64 2) from hcs 3 (by decide)) d os
  have a4 := fun d os => cell_regrown (show w3.cell? ⟨b3, o3 + 4, none⟩ = some (.int .i64 3) from hcs 4 (by decide)) d os
  have a5 := fun d os => cell_regrown (show w3.cell? ⟨b3, o3 + 5, none⟩ = some (.int .i64 0) from hcs 5 (by decide)) d os
  have a6 := fun d os => cell_regrown (show w3.cell? ⟨b3, o3 + 6, none⟩ = some (.int .i64 1) from hcs 6 (by decide)) d os
  have a7 := fun d os => cell_regrown (show w3.cell? ⟨b3, o3 + 7, none⟩ = some (.int .i64 1) from hcs 7 (by decide)) d os
  have a8 := fun d os => cell_regrown (show w3.cell? ⟨b3, o3 + 8, none⟩ = some (.int .i64 2) from hcs 8 (by decide)) d os
  have b0 := fun d os => cell_regrown (show w3.cell? ⟨w.heap.size, 0, none⟩ = some (.int .i64 7) from (cell_row (j := 0) HF3.out).trans rfl) d os
  have b1 := fun d os => cell_regrown (show w3.cell? ⟨w.heap.size, 1, none⟩ = some (.int .i64 1) from (cell_row (j := 1) HF3.out).trans rfl) d os
  have b2 := fun d os => cell_regrown (show w3.cell? ⟨w.heap.size, 2, none⟩ = some (.int .i64 0) from (cell_row (j := 2) HF3.out).trans rfl) d os
  have b3' := fun d os => cell_regrown (show w3.cell? ⟨w.heap.size, 3, none⟩ = some (.int .i64 2) from (cell_row (j := 3) HF3.out).trans rfl) d os
  have b4 := fun d os => cell_regrown (show w3.cell? ⟨w.heap.size, 4, none⟩ = some (.int .i64 3) from (cell_row (j := 4) HF3.out).trans rfl) d os
  have b5 := fun d os => cell_regrown (show w3.cell? ⟨w.heap.size, 5, none⟩ = some (.int .i64 0) from (cell_row (j := 5) HF3.out).trans rfl) d os
  have b6 := fun d os => cell_regrown (show w3.cell? ⟨w.heap.size, 6, none⟩ = some (.int .i64 1) from (cell_row (j := 6) HF3.out).trans rfl) d os
  have b7 := fun d os => cell_regrown (show w3.cell? ⟨w.heap.size, 7, none⟩ = some (.int .i64 1) from (cell_row (j := 7) HF3.out).trans rfl) d os
  have b8 := fun d os => cell_regrown (show w3.cell? ⟨w.heap.size, 8, none⟩ = some (.int .i64 2) from (cell_row (j := 8) HF3.out).trans rfl) d os
  have heq := eq36s 7 1 0 2 3 0 1 1 2
  clear hb3 hrows hcs h3
  go_wp2_with fail
  refine wp_region_quiet_below (by kernel_rfl) (by kernel_rfl) ?_
  repeat (first | go_big_quiet_step (fail) | quiet_step (fail))
  refine wpQuiet_nil ?_
  intro _ hw'
  obtain ⟨⟨dqV, osV⟩, hw2⟩ := hw'
  subst hw2
  have HQV := hid (below_regrown w3 dqV osV)
  generalize Sort.grow (redrawn w3 dqV) osV = V at HQV ⊢
  have hsV := HQV.out.size
  clear a0 a1 a2 a3 a4 a5 a6 a7 a8 b0 b1 b2 b3' b4 b5 b6 b7 b8
  go_wp2_with fail
  go_ret
  exact ⟨rfl, HB3.out.trans (HQV.out.mono hz3)⟩
end Go.Proofs.YtpfighhhemnhaaaGreat

