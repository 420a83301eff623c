/- The layout of points: what the program returns are the tiles that the plain law tells of. -/
import Derived.Test.YteanlcefdoigcaaLayR
namespace Go.Proofs.Yteanlcefdoigcaa
open Go.RowKit Go.Maps

/-- between two rounds of the inner loop -/
def InRel (W3 : World) (mb n : Nat) (S : List Pt) (c l : Nat) (Lf : List Pt) (rv iv : Value) (W : World) : Prop :=
  ∃ (i : Nat) (get : Lit → Option Value), i ≤ n ∧ iv = .int .i64 (i : Int) ∧ MapAt Try.prog W 39 mb (2 * i) get ∧ Grps W W3.heap.size get S c l Lf i ∧ OwnP W W3.heap.size rv (rst S c l Lf i) ∧ Apart get rv ∧ Turned W3 W (fun k => k = mb)
/-- between two levels -/
def OutRel (w : World) (S : List Pt) (c : Nat) (lv ov iv : Value) (W : World) : Prop :=
  ∃ (l : Nat) (Lf : List Pt) (E : List Te), l ≤ 13 ∧ iv = .int .i64 (l : Int) ∧ LeftAt S c l Lf ∧ OwnP W w.heap.size lv Lf ∧ TilesIn W w.heap.size ov E ∧ Tiles (above S c l) (E.map Te.tl) ∧ (∀ e ∈ E, e.ok) ∧ E.length ≤ l * 8192 ∧ Below w.heap.size w W
/-- between two rounds of the range -/
def RngRel (w : World) (bl mb r n : Nat) (get : Lit → Option Value) (S : List Pt) (c l : Nat) (Lf : List Pt) (rv ov : Value) (W : World) : Prop :=
  ∃ (left : Lit → Bool) (cnt : Nat) (E : List Te), RngAt W w.heap.size bl mb r n get left cnt S c l Lf E ov rv ∧ E.length + cnt ≤ l * 8192 + 8192 ∧ bl ≤ W.heap.size ∧ Below w.heap.size w W
theorem OwnR.grow' {W W' : World} {base t sz : Nat} {v : Value} {l : List (List Value)} (h : OwnR W base t sz v l) (hb : Below W.heap.size W W') : OwnR W' base t sz v l := h.grow hb
/-- the clone of a slice of points -/
theorem clone_pts (b off c : Nat) (l : List Pt) (w : World) (hn : l.length ≤ 4096) (hbw : b < w.heap.size) (hr : RowsAt w b off 9 (l.map Pt.row)) :
    Calls Try.prog 94 #[.slice (some ⟨b, off, none⟩) l.length c] w fun r w' => (∃ v, r = .returned v ∧ OwnP w' w.heap.size v l) ∧ Below w.heap.size w w' := by
  have h9 : recs9 w b off l.length (fun i j => (l[i]!).f j) := fun i hi j hj => by
    have := hr i (l[i]!).row (by rw [List.getElem?_map, List.getElem?_eq_getElem hi, getElem!_pos l i hi]; rfl) j hj
    rw [Pt.row_at _ j hj] at this
    exact this
  have e : ptRows (ptList (fun i j => (l[i]!).f j) l.length) = l.map Pt.row := by
    refine List.ext_getElem? fun i => ?_
    by_cases hi : i < l.length
    · simp [ptRows, ptList, hi]
      rfl
    · simp [ptRows, ptList, hi]
  refine (clone_any b off l.length c _ w (by omega) hbw h9).mono ?_
  rintro r w' ⟨⟨v, rfl, hv⟩, hb⟩
  rw [e] at hv
  exact ⟨⟨v, rfl, hv⟩, hb⟩
set_option maxRecDepth 100000 in
theorem clone_empty (a : Option Addr) (c : Nat) (w : World) :
    Calls Try.prog 94 #[.slice a 0 c] w fun r w' => (∃ v, r = .returned v ∧ OwnP w' w.heap.size v []) ∧ Below w.heap.size w w' := by
  obtain ⟨i0, hi, hz0, hz1, hz2⟩ := info_parts info36
  have HI := hid hi
  have HZ0 := hid hz0
  have HZ1 := hid hz1
  have HZ2 := hid hz2
  clear hi hz0 hz1 hz2
  cases a with
  | none =>
    have heq := fun w => Lib.run_eql_slice_nil (P := Try.prog) w 22 36 none 0 c 0 0 Try.underlying22
    go_enter Try.func94, Try.ntmps94
    go_wp2_with fail
    go_ret
    exact ⟨⟨_, rfl, OwnR.nil _ _ _ _⟩, Below.refl _ _⟩
  | some ad =>
    have heq := fun w => Lib.run_eql_slice_nil (P := Try.prog) w 22 36 (some ad) 0 c 0 0 Try.underlying22
    have hown0 : OwnR (w.alloc (.cells #[] 36)) w.heap.size 36 9 (.slice (some ⟨w.heap.size, 0, none⟩) 0 0) [] := ⟨Wide.nil 9, rfl, Or.inr ⟨_, 0, #[], rfl, Nat.le_refl _, (by repeat' (first | (refine heap_alloc_at _ _ _ ?_; (first | rfl | (simp; done) | (simp; omega))) | (refine heap_alloc_past _ _ _ _ ?_))), Nat.le_refl _, by unfold maxLen; omega, rfl, rfl⟩⟩
    have HOWN := hid hown0
    clear hown0
    go_enter Try.func94, Try.ntmps94
    go_wp2_with (first
      | (at_builtin
         refine wpList_append_own_at _ rfl (.tmp 5) (.tmp 6) 22 rfl w.heap.size 36 i0 _ 9 72 Try.underlying22 HI.out HZ0.out HZ1.out HZ2.out rfl (by decide) _ 0 [] rfl HOWN.out.2 ad 0 c [] rfl rfl (fun j u h => by simp at h) (fun u h => by simp at h) (by unfold maxLen; omega) (by omega) (by simp) ?_
         intro v' w1 hown hgrow _ halt
         have HO := hid (show OwnR w1 w.heap.size 36 9 v' [] from ⟨Wide.nil 9, by simpa using hown⟩)
         have HB := hid (show Below w.heap.size w w1 from ((Below.refl _ _).alloc (Nat.le_refl _) _).grown hgrow (by simp) (fun k hk => by have e : some w.heap.size = some k := hk; injection e with e; omega))
         clear hown hgrow halt))
    go_ret
    exact ⟨⟨v', rfl, HO.out⟩, HB.out⟩
set_option maxRecDepth 100000 in
set_option maxHeartbeats 3200000 in
theorem lay_gen (pv : Value) (S : List Pt) (c : Nat) (w : World) (hS : GoodS S) (hfine : ∀ p ∈ S, p.fine) (hlen : S.length ≤ 4096) (hcl : Calls Try.prog 94 #[pv] w fun r w' => (∃ v, r = .returned v ∧ OwnP w' w.heap.size v S) ∧ Below w.heap.size w w') :
    Calls Try.prog 49 #[pv, .int .i64 c] w fun r w' => (∃ v E, r = .returned v ∧ TilesIn w' w.heap.size v E ∧ IsLayout S c (E.map Te.tl)) ∧ Below w.heap.size w w' := by
  have HCL := hid hcl
  have HS := hid hS
  have HF := hid hfine
  clear hcl hS hfine
  have hmk := made129
  obtain ⟨i0, hi, hz0, hz1, hz2⟩ := info_parts info36
  have HI := hid hi
  have HZ0 := hid hz0
  have HZ1 := hid hz1
  have HZ2 := hid hz2
  clear hi hz0 hz1 hz2
  obtain ⟨i1, hi, hz0, hz1, hz2⟩ := info_parts info49
  have JI := hid hi
  have JZ0 := hid hz0
  have JZ1 := hid hz1
  have JZ2 := hid hz2
  clear hi hz0 hz1 hz2
  go_enter Try.func49, Try.ntmps49
  go_wp2_with fail
  refine HCL.out.mono ?_
  rintro r w1 ⟨⟨v0, rfl, hv⟩, hb1⟩
  have HB1 := hid hb1
  have HV := hid hv
  clear hb1 hv HCL
  go_wp2_with fail
  refine (sortRank_any v0 S w.heap.size w1 HV.out (by omega)).mono ?_
  rintro r w2 ⟨rfl, L0, hperm, hpw, hown, hg⟩
  have HB2 := hid (show Below w.heap.size w w2 from HB1.out.grown hg HB1.out.size (fun k hk => OwnR.ownBlock HV.out k hk))
  have HL0 := hid (show LeftAt S c 0 L0 from left_start HS.out hperm hpw)
  have HO0 := hid (show OwnP w2 w.heap.size v0 L0 from hown)
  clear hperm hpw hown hg HB1 HV
  go_wp2_with fail
  go_loopw [5, 6, 7] (fun lv ov iv W => OutRel w S c lv ov iv W) (fun _ _ iv _ => 13 - (intOf iv).toNat)
  case atStart => exact ⟨0, L0, [], by omega, rfl, HL0.out, HO0.out, ⟨OwnR.nil _ _ _ _, fun e he => by simp at he⟩, Tiles.nil (fun p k h => by obtain ⟨_, h1, h2⟩ := h; obtain ⟨m, _, h3⟩ := isAt_bd h1; omega), fun e he => by simp at he, by simp, HB2.out⟩
  case round =>
    obtain ⟨l, Lf, E, hl, rfl, hlf, hol, hte, htl, hks, hel, hB⟩ := hrel
    obtain ⟨la, lcap, hlv⟩ := hol.slice
    subst hlv
    have HLF := hid hlf
    have HOL := hid hol
    have HTE := hid hte
    have HTL := hid htl
    have HKS := hid hks
    have HEL := hid hel
    have HBW := hid hB
    have hzw := hB.size
    have hn4 : Lf.length ≤ 4096 := Nat.le_trans (by rw [hlf.perm.length_eq]; exact List.length_filter_le _ _) hlen
    clear hlf hol hte htl hks hel hB
    obtain ⟨n, hnl⟩ : ∃ n, n = Lf.length := ⟨_, rfl⟩
    rw [← hnl] at hn4 HOL ⊢
    have HNL := hid hnl
    clear hnl
    by_cases hgo : l ≤ 12 ∧ 0 < n
    · obtain ⟨hl12, hpos⟩ := hgo
      have d1 : decide ((l : Int) ≤ 12) = true := decide_eq_true (by omega)
      have d2 : decide ((0 : Int) < (n : Int)) = true := decide_eq_true (by omega)
      obtain ⟨g, gcap, hsl, hgb, hgs, hcells⟩ := OwnP.cells HOL.out (by rw [← HNL.out]; exact hpos)
      injection hsl with hsl hnn hcap
      clear hnn
      subst hsl hcap
      have HC := hid hcells
      clear hcells
      refine gen_world (fun W0 hW0 => ?_)
      subst hW0
      obtain ⟨W3, hW3⟩ : ∃ W3, W3 = W0.alloc (.map #[] 0) := ⟨_, rfl⟩
      have HM3 := hid (show MapAt Try.prog W3 39 W0.heap.size 0 (fun _ => none) by rw [hW3]; exact MapAt.made W0)
      have HB3 := hid (show Below W0.heap.size W0 W3 by rw [hW3]; (repeat' (first | (with_reducible exact Below.refl _ _) | (with_reducible assumption) | (with_reducible refine Below.alloc ?_ ?_ _) | (with_reducible refine Below.drew ?_) | (with_reducible refine below_drewN ?_ _) | (with_reducible refine Below.setCell ?_ ?_ _) | (with_reducible refine below_setRow ?_ ?_ _) | go_size)))
      have hs3 : W3.heap.size = W0.heap.size + 1 := by rw [hW3]; simp
      have HW3 := hid hW3
      clear hW3
      go_wp2_with fail
      go_loopw [9, 31] (fun rv iv W => InRel W3 W0.heap.size n S c l Lf rv iv W) (fun _ iv _ => n - (intOf iv).toNat)
      case atStart =>
        rw [← HW3.out]
        exact ⟨0, _, by omega, rfl, HM3.out, Grps.start _ _ _ _ _ _, OwnR.nil _ _ _ _, fun _ _ _ _ h => (by cases h), Turned.refl _ _⟩
      case round =>
        obtain ⟨i, get, hi, rfl, hmap, hgr, hor, hap, htu⟩ := hrel
        obtain ⟨ra, rcap, hrs⟩ := OwnP.slice hor
        have hrn : (rst S c l Lf i).length ≤ 4096 := by
          refine Nat.le_trans (List.length_filter_le _ _) ?_
          rw [List.length_take]
          have := HNL.out
          omega
        obtain ⟨rn, hrnl⟩ : ∃ rn, rn = (rst S c l Lf i).length := ⟨_, rfl⟩
        rw [← hrnl] at hrs hrn
        subst hrs
        have HRN := hid hrnl
        have HRB := hid hrn
        clear hrnl hrn
        have HMAP := hid hmap
        have HGR := hid hgr
        have HOR := hid hor
        have HAP := hid hap
        have HTU := hid htu
        have hzr := htu.size
        clear hmap hgr hor hap htu
        by_cases hlt : i < n
        · obtain ⟨p, hp⟩ : ∃ p, Lf[i]? = some p := ⟨_, List.getElem?_eq_getElem (by rw [← HNL.out]; exact hlt)⟩
          have hpf : p.fine := HF.out p (HLF.out.mem.1 (List.mem_of_getElem? hp)).1
          have hcell : ∀ j, j < 9 → wr.cell? ⟨g, i * 9 + j, none⟩ = some (.int .i64 (p.f j)) := fun j hj => by
            rw [World.cell?_of_block (w := W3) (HTU.out.block g (by omega) (by omega)), World.cell?_of_block (w := W0) (HB3.out.block g hgs)]
            exact HC.out i p hp j hj
          have HP := hid hp
          have HPF := hid hpf
          obtain ⟨p0, p1, p2, p3, p4, p5, p6, p7, p8⟩ := p
          have c0 : wr.cell? ⟨g, i * 9, none⟩ = some (.int .i64 p0) := hcell 0 (by decide)
          have c1 : wr.cell? ⟨g, i * 9 + 1, none⟩ = some (.int .i64 p1) := hcell 1 (by decide)
          have c2 : wr.cell? ⟨g, i * 9 + 2, none⟩ = some (.int .i64 p2) := hcell 2 (by decide)
          have c3 : wr.cell? ⟨g, i * 9 + 3, none⟩ = some (.int .i64 p3) := hcell 3 (by decide)
          have c4 : wr.cell? ⟨g, i * 9 + 4, none⟩ = some (.int .i64 p4) := hcell 4 (by decide)
          have c5 : wr.cell? ⟨g, i * 9 + 5, none⟩ = some (.int .i64 p5) := hcell 5 (by decide)
          have c6 : wr.cell? ⟨g, i * 9 + 6, none⟩ = some (.int .i64 p6) := hcell 6 (by decide)
          have c7 : wr.cell? ⟨g, i * 9 + 7, none⟩ = some (.int .i64 p7) := hcell 7 (by decide)
          have c8 : wr.cell? ⟨g, i * 9 + 8, none⟩ = some (.int .i64 p8) := hcell 8 (by decide)
          have hx : -268435456 ≤ p1 ∧ p1 ≤ 268435456 := hpf.2.1
          have hy : -268435456 ≤ p2 ∧ p2 ≤ 268435456 := hpf.2.2.1
          have hz : -268435456 ≤ p3 ∧ p3 ≤ 268435456 := hpf.2.2.2
          have HXC := hid (fun W => xCell_any p0 p1 p2 p3 p4 p5 p6 p7 p8 l hl12 hx hy hz W)
          obtain ⟨k1, hk1⟩ : ∃ k1, idxV p1 l = k1 := ⟨_, rfl⟩
          obtain ⟨k2, hk2⟩ : ∃ k2, idxV p2 l = k2 := ⟨_, rfl⟩
          obtain ⟨k3, hk3⟩ : ∃ k3, idxV p3 l = k3 := ⟨_, rfl⟩
          have HK := hid (show cellK l ⟨p0, p1, p2, p3, p4, p5, p6, p7, p8⟩ = ⟨(l : Int), k1, k2, k3⟩ by unfold cellK; rw [hk1, hk2, hk3])
          have HCC := hid (show cellC l p1 p2 p3 = #[.int .i64 (l : Int), .int .i64 k1, .int .i64 k2, .int .i64 k3] by unfold cellC; rw [hk1, hk2, hk3])
          obtain ⟨kl, hkl⟩ : ∃ kl, kl = kLit (cellK l ⟨p0, p1, p2, p3, p4, p5, p6, p7, p8⟩) := ⟨_, rfl⟩
          have HKLE := hid hkl
          have HKL := hid (show keyOf Try.prog 39 (.agg #[.int .i64 (l : Int), .int .i64 k1, .int .i64 k2, .int .i64 k3]) = some kl by rw [hkl]; have := key_lit _ (cellK_small hpf hl12); rw [HK.out] at this ⊢; exact this)
          obtain ⟨v, hvv⟩ : ∃ v, v = (get kl).getD (.slice none 0 0) := ⟨_, rfl⟩
          have hov : OwnP wr W3.heap.size v (grp S c l Lf i (cellK l ⟨p0, p1, p2, p3, p4, p5, p6, p7, p8⟩)) ∧ ∀ g, v.ownBlock = some g → get (kLit (cellK l ⟨p0, p1, p2, p3, p4, p5, p6, p7, p8⟩)) = some v := by
            rw [← hkl]
            cases hgk : get kl with
            | none =>
              rw [hgk] at hvv
              rw [HGR.out.none _ (cellK_small hpf hl12) (by rw [← hkl]; exact hgk)]
              subst hvv
              exact ⟨OwnR.nil _ _ _ _, fun g h => by cases h⟩
            | some u =>
              rw [hgk] at hvv
              obtain rfl : v = u := hvv
              exact ⟨(HGR.out.own _ (cellK_small hpf hl12) v (by rw [← hkl]; exact hgk)).1, fun _ _ => rfl⟩
          obtain ⟨hov1, hov2⟩ := hov
          obtain ⟨va, vcap, hvs⟩ := OwnP.slice hov1
          have HT := hid (takes_grp HLF.out hp)
          have HOV := hid hov1
          have HGT := hid hov2
          obtain ⟨m, hm⟩ : ∃ m, m = (grp S c l Lf i (cellK l ⟨p0, p1, p2, p3, p4, p5, p6, p7, p8⟩)).length := ⟨_, rfl⟩
          have hm4 : m ≤ 4096 := by
            rw [hm]
            refine Nat.le_trans (List.length_filter_le _ _) ?_
            rw [List.length_take]
            have := HNL.out
            omega
          rw [← hm] at hvs HT
          subst hvs
          have HVV := hid hvv
          have HMM := hid hm
          have HMB := hid hm4
          clear hm4
          have d3 : decide ((i : Int) < (n : Int)) = true := decide_eq_true (by omega)
          clear hcell hpf hk1 hk2 hk3 hkl hvv hov1 hov2 hm hx hy hz hp
          go_wp2_with fail
          refine (HXC.out _).mono ?_
          rintro r W4 ⟨rfl, hb4⟩
          rw [HCC.out]
          have hP4 : W4.heap[wr.heap.size]? = some (.cells #[.int .i64 p0, .int .i64 p1, .int .i64 p2, .int .i64 p3, .int .i64 p4, .int .i64 p5, .int .i64 p6, .int .i64 p7, .int .i64 p8] 36) := heap_still hb4 (heap_alloc_at _ _ _ rfl)
          have HP4 := hid hP4
          have HB4 := hid (show Below wr.heap.size wr W4 from ((Below.refl _ _).alloc (Nat.le_refl _) _).trans (hb4.mono (by simp)))
          have HM4 := hid (HMAP.out.grow HB4.out)
          have hs4 := HB4.out.size
          have hs4' := hb4.size
          simp at hs4'
          have hlook : (Instr.lookup 129 (.map (some W0.heap.size)) (.agg #[.int .i64 (l : Int), .int .i64 k1, .int .i64 k2, .int .i64 k3]) false).run Try.prog (W4.alloc (.cells #[.int .i64 (l : Int), .int .i64 k1, .int .i64 k2, .int .i64 k3] 39)) = .ok (.slice va m vcap) (W4.alloc (.cells #[.int .i64 (l : Int), .int .i64 k1, .int .i64 k2, .int .i64 k3] 39)) := by
            rw [HVV.out]
            exact (HM4.out.grow ((Below.refl _ _).alloc (Nat.le_refl _) _)).look law39 Try.underlying129 (zero22 _) HKL.out
          have hq : ∀ j (u : Value), (#[Value.int .i64 p0, .int .i64 p1, .int .i64 p2, .int .i64 p3, .int .i64 p4, .int .i64 p5, .int .i64 p6, .int .i64 p7, .int .i64 p8])[j]? = some u → (W4.alloc (.cells #[.int .i64 (l : Int), .int .i64 k1, .int .i64 k2, .int .i64 k3] 39)).cell? ⟨wr.heap.size, j, none⟩ = some u := fun j u h => (cell_row (heap_alloc_past _ _ _ _ hP4)).trans h
          have q0 := hq 0 _ rfl
          have q1 := hq 1 _ rfl
          have q2 := hq 2 _ rfl
          have q3 := hq 3 _ rfl
          have q4 := hq 4 _ rfl
          have q5 := hq 5 _ rfl
          have q6 := hq 6 _ rfl
          have q7 := hq 7 _ rfl
          have q8 := hq 8 _ rfl
          clear hq hb4 hP4 c0 c1 c2 c3 c4 c5 c6 c7 c8 HXC HCC
          by_cases hmc : m < c
          · have d5 : decide ((m : Int) < (c : Int)) = true := decide_eq_true (by omega)
            have HTK := hid (show takes S c l ⟨p0, p1, p2, p3, p4, p5, p6, p7, p8⟩ = true by rw [HT.out]; simp [hmc])
            go_upto_region 14 with fail
            have HW5 := hid (show Below wr.heap.size wr ((W4.alloc (.cells #[.int .i64 (l : Int), .int .i64 k1, .int .i64 k2, .int .i64 k3] 39)).alloc (.cells #[.int .i64 p0, .int .i64 p1, .int .i64 p2, .int .i64 p3, .int .i64 p4, .int .i64 p5, .int .i64 p6, .int .i64 p7, .int .i64 p8] 36)) from (HB4.out.alloc HB4.out.size _).alloc (base_alloc HB4.out.size _) _)
            go_wp2_with (first
              | (refine wpList_entry rfl (.tmp 48) (.tmp 49) 129 rfl law39 Try.underlying129 rfl (HMAP.out.grow HW5.out) (by unfold maxLen; omega) (zero22 _) (.agg #[.int .i64 (l : Int), .int .i64 k1, .int .i64 k2, .int .i64 k3]) kl rfl HKL.out ?_
                 intro W6 s hm6 hg6 hp6
                 rw [← HVV.out] at hm6 ⊢
                 have HRW := hid (RowsAt.one (sz := 9) ((hg6.block (W4.heap.size + 1) (by simp) (by intro h; injection h with h; have := HMAP.out.lt; omega)).trans (heap_alloc_at _ _ _ (by simp))))
                 have HM6 := hid hm6
                 have HP6 := hid hp6
                 have HG6 := hid hg6
                 have HV6 := hid (show OwnR W6 W3.heap.size 36 9 (.slice va m vcap) ((grp S c l Lf i (cellK l ⟨p0, p1, p2, p3, p4, p5, p6, p7, p8⟩)).map Pt.row) from (OwnR.grow' HOV.out HW5.out).turned (turned_grown hg6) (fun b hb e => own_map HOV.out HMAP.out hb (by injection e)))
                 have HS6 := hid (show W3.heap.size ≤ W6.heap.size from Nat.le_trans hzr (Nat.le_trans HW5.out.size hg6.size))
                 have HX6 := hid (show some W0.heap.size ≠ (Value.slice va m vcap).ownBlock from fun e => own_map HOV.out HMAP.out e.symm rfl)
                 clear hm6 hp6 hg6)
              | (at_builtin
                 refine wpList_append_rows rfl (.tmp 50) (.tmp 52) 22 rfl W3.heap.size 36 i0 _ 9 72 Try.underlying22 HI.out HZ0.out HZ1.out HZ2.out rfl (by decide) (.slice va m vcap) _ [[.int .i64 p0, .int .i64 p1, .int .i64 p2, .int .i64 p3, .int .i64 p4, .int .i64 p5, .int .i64 p6, .int .i64 p7, .int .i64 p8]] rfl HV6.out (W4.heap.size + 1) 0 1 1 rfl rfl HRW.out (wide9 _ _ _ _ _ _ _ _ _) (by rw [List.length_map, ← HMM.out]; show m + 1 ≤ maxLen; have := HMB.out; unfold maxLen; omega) (by rw [List.length_map, ← HMM.out]; show (m + 1) * 72 ≤ 140737488355328; have := HMB.out; omega) HS6.out ?_
                 intro v7 W7 hown7 hg7 halt7
                 have HM7 := hid (HM6.out.kept hg7 HX6.out)
                 have HP7 := hid (HP6.out.kept hg7 HX6.out)
                 have HO7 := hid hown7
                 have HG7 := hid hg7
                 have HA7 := hid halt7
                 clear hown7 hg7 halt7)
              | (refine wpList_entryStore rfl (.tmp 48) (.tmp 55) (.tmp 54) 129 rfl law39 Try.underlying129 rfl HM7.out (by unfold maxLen; omega) s rfl v7 rfl (.agg #[.int .i64 (l : Int), .int .i64 k1, .int .i64 k2, .int .i64 k3]) kl HKL.out HP7.out ?_
                 intro W8 hm8 hg8
                 have HM8 := hid hm8
                 have HG8 := hid hg8
                 clear hm8 hg8))
            obtain ⟨g8, o8, a8, t8⟩ := take_end rfl HGR.out HOR.out HAP.out HTU.out HMAP.out HP.out HTK.out HPF.out hl12 HOV.out HGT.out HW5.out HG6.out HG7.out HG8.out HO7.out HA7.out
            have m8 := HM8.out
            rw [putG_twice, HKLE.out] at m8
            exact ⟨⟨i + 1, _, by omega, by go_num, m8.mono (by omega), g8, o8, a8, t8⟩, by simp [intOf]; omega⟩
          · have d5 : decide ((m : Int) < (c : Int)) = false := decide_eq_false (by omega)
            by_cases hl2 : l = 12
            · have d6 : ((l : Int) == 12) = true := by simp; omega
              have HTK := hid (show takes S c l ⟨p0, p1, p2, p3, p4, p5, p6, p7, p8⟩ = true by rw [HT.out]; simp [hl2])
              clear hl2
              go_upto_region 14 with fail
              have HW5 := hid (show Below wr.heap.size wr ((W4.alloc (.cells #[.int .i64 (l : Int), .int .i64 k1, .int .i64 k2, .int .i64 k3] 39)).alloc (.cells #[.int .i64 p0, .int .i64 p1, .int .i64 p2, .int .i64 p3, .int .i64 p4, .int .i64 p5, .int .i64 p6, .int .i64 p7, .int .i64 p8] 36)) from (HB4.out.alloc HB4.out.size _).alloc (base_alloc HB4.out.size _) _)
              go_wp2_with (first
                | (refine wpList_entry rfl (.tmp 48) (.tmp 49) 129 rfl law39 Try.underlying129 rfl (HMAP.out.grow HW5.out) (by unfold maxLen; omega) (zero22 _) (.agg #[.int .i64 (l : Int), .int .i64 k1, .int .i64 k2, .int .i64 k3]) kl rfl HKL.out ?_
                   intro W6 s hm6 hg6 hp6
                   rw [← HVV.out] at hm6 ⊢
                   have HRW := hid (RowsAt.one (sz := 9) ((hg6.block (W4.heap.size + 1) (by simp) (by intro h; injection h with h; have := HMAP.out.lt; omega)).trans (heap_alloc_at _ _ _ (by simp))))
                   have HM6 := hid hm6
                   have HP6 := hid hp6
                   have HG6 := hid hg6
                   have HV6 := hid (show OwnR W6 W3.heap.size 36 9 (.slice va m vcap) ((grp S c l Lf i (cellK l ⟨p0, p1, p2, p3, p4, p5, p6, p7, p8⟩)).map Pt.row) from (OwnR.grow' HOV.out HW5.out).turned (turned_grown hg6) (fun b hb e => own_map HOV.out HMAP.out hb (by injection e)))
                   have HS6 := hid (show W3.heap.size ≤ W6.heap.size from Nat.le_trans hzr (Nat.le_trans HW5.out.size hg6.size))
                   have HX6 := hid (show some W0.heap.size ≠ (Value.slice va m vcap).ownBlock from fun e => own_map HOV.out HMAP.out e.symm rfl)
                   clear hm6 hp6 hg6)
                | (at_builtin
                   refine wpList_append_rows rfl (.tmp 50) (.tmp 52) 22 rfl W3.heap.size 36 i0 _ 9 72 Try.underlying22 HI.out HZ0.out HZ1.out HZ2.out rfl (by decide) (.slice va m vcap) _ [[.int .i64 p0, .int .i64 p1, .int .i64 p2, .int .i64 p3, .int .i64 p4, .int .i64 p5, .int .i64 p6, .int .i64 p7, .int .i64 p8]] rfl HV6.out (W4.heap.size + 1) 0 1 1 rfl rfl HRW.out (wide9 _ _ _ _ _ _ _ _ _) (by rw [List.length_map, ← HMM.out]; show m + 1 ≤ maxLen; have := HMB.out; unfold maxLen; omega) (by rw [List.length_map, ← HMM.out]; show (m + 1) * 72 ≤ 140737488355328; have := HMB.out; omega) HS6.out ?_
                   intro v7 W7 hown7 hg7 halt7
                   have HM7 := hid (HM6.out.kept hg7 HX6.out)
                   have HP7 := hid (HP6.out.kept hg7 HX6.out)
                   have HO7 := hid hown7
                   have HG7 := hid hg7
                   have HA7 := hid halt7
                   clear hown7 hg7 halt7)
                | (refine wpList_entryStore rfl (.tmp 48) (.tmp 55) (.tmp 54) 129 rfl law39 Try.underlying129 rfl HM7.out (by unfold maxLen; omega) s rfl v7 rfl (.agg #[.int .i64 (l : Int), .int .i64 k1, .int .i64 k2, .int .i64 k3]) kl HKL.out HP7.out ?_
                   intro W8 hm8 hg8
                   have HM8 := hid hm8
                   have HG8 := hid hg8
                   clear hm8 hg8))
              obtain ⟨g8, o8, a8, t8⟩ := take_end rfl HGR.out HOR.out HAP.out HTU.out HMAP.out HP.out HTK.out HPF.out hl12 HOV.out HGT.out HW5.out HG6.out HG7.out HG8.out HO7.out HA7.out
              have m8 := HM8.out
              rw [putG_twice, HKLE.out] at m8
              exact ⟨⟨i + 1, _, by omega, by go_num, m8.mono (by omega), g8, o8, a8, t8⟩, by simp [intOf]; omega⟩
            · have d6 : ((l : Int) == 12) = false := by simp; omega
              have HTK := hid (show takes S c l ⟨p0, p1, p2, p3, p4, p5, p6, p7, p8⟩ = false by rw [HT.out]; simp [hmc, hl2])
              go_upto_region 15 with fail
              have HW5 := hid (show Below wr.heap.size wr ((W4.alloc (.cells #[.int .i64 (l : Int), .int .i64 k1, .int .i64 k2, .int .i64 k3] 39)).alloc (.cells #[.int .i64 p0, .int .i64 p1, .int .i64 p2, .int .i64 p3, .int .i64 p4, .int .i64 p5, .int .i64 p6, .int .i64 p7, .int .i64 p8] 36)) from (HB4.out.alloc HB4.out.size _).alloc (base_alloc HB4.out.size _) _)
              have HOR5 := hid (OwnR.grow' HOR.out HW5.out)
              have HRW5 := hid (show RowsAt ((W4.alloc (.cells #[.int .i64 (l : Int), .int .i64 k1, .int .i64 k2, .int .i64 k3] 39)).alloc (.cells #[.int .i64 p0, .int .i64 p1, .int .i64 p2, .int .i64 p3, .int .i64 p4, .int .i64 p5, .int .i64 p6, .int .i64 p7, .int .i64 p8] 36)) (W4.heap.size + 1) 0 9 [[.int .i64 p0, .int .i64 p1, .int .i64 p2, .int .i64 p3, .int .i64 p4, .int .i64 p5, .int .i64 p6, .int .i64 p7, .int .i64 p8]] from RowsAt.one (heap_alloc_at _ _ _ (by simp)))
              have HL5 := hid (show ((rst S c l Lf i).map Pt.row).length + 1 ≤ maxLen by rw [List.length_map, ← HRN.out]; have := HRB.out; unfold maxLen; omega)
              have HL6 := hid (show (((rst S c l Lf i).map Pt.row).length + 1) * 72 ≤ 140737488355328 by rw [List.length_map, ← HRN.out]; have := HRB.out; omega)
              have HS5 := hid (Nat.le_trans hzr HW5.out.size)
              go_wp2_with (first
                | (at_builtin
                   refine wpList_append_rows rfl (.tmp 56) (.tmp 58) 22 rfl W3.heap.size 36 i0 _ 9 72 Try.underlying22 HI.out HZ0.out HZ1.out HZ2.out rfl (by decide) (.slice ra rn rcap) _ [[.int .i64 p0, .int .i64 p1, .int .i64 p2, .int .i64 p3, .int .i64 p4, .int .i64 p5, .int .i64 p6, .int .i64 p7, .int .i64 p8]] rfl HOR5.out (W4.heap.size + 1) 0 1 1 rfl rfl HRW5.out (wide9 _ _ _ _ _ _ _ _ _) HL5.out HL6.out HS5.out ?_
                   intro v6 W6 hown6 hg6 halt6
                   have HO6 := hid hown6
                   have HG6 := hid hg6
                   have HA6 := hid halt6
                   clear hown6 hg6 halt6))
              obtain ⟨m6, g6, o6, a6, t6⟩ := rest_end rfl HGR.out HOR.out HAP.out HTU.out HMAP.out HP.out HTK.out HW5.out HG6.out HO6.out HA6.out
              exact ⟨⟨i + 1, get, by omega, by go_num, m6.mono (by omega), g6, o6, a6, t6⟩, by simp [intOf]; omega⟩
        · obtain rfl : i = n := by omega
          have d3 : decide ((i : Int) < (i : Int)) = false := by simp
          go_wp2_with (refine wpList_rangeV rfl (.tmp 61) 129 rfl law39 Try.underlying129 rfl HMAP.out ?_
                       intro W9 cnt hr9 hg9 hs9
                       have HR9 := hid hr9
                       have HG9 := hid hg9
                       have HS9 := hid hs9
                       clear hr9 hg9 hs9)
          have hbl9 : W3.heap.size ≤ W9.heap.size := Nat.le_trans hzr HG9.out.size
          have HRW := hid (show RngRel w W3.heap.size W0.heap.size wr.heap.size (2 * i) get S c l Lf (.slice ra rn rcap) u6 W9 from by
            have t9 : Turned W0 W9 (fun k => k = W0.heap.size) := (Turned.trans (turned_below HB3.out (fun k => k = W0.heap.size)) HTU.out (fun k _ e => e)).trans (turned_grown HG9.out) (fun k _ e => by cases e)
            have tr : Turned wr W9 (fun _ => False) := ⟨HG9.out.os, HG9.out.tape, HG9.out.output, HG9.out.size, fun k hk _ => HG9.out.block k hk (by simp)⟩
            have hcn := HR9.out.cnt_le
            have hin := HNL.out
            have hel := HEL.out
            refine ⟨_, cnt, E, rng_start HF.out HLF.out hl12 ?_ HR9.out (HTE.out.turned t9 (fun k hk e => by omega)) HTL.out (fun e he g hg => ?_) ?_ HKS.out, by omega, hbl9, t9.below HBW.out hzw (fun k e => by omega)⟩
            · rw [← hin]
              exact HGR.out.keep tr (fun _ e => e)
            · have := OwnR.lt (HTE.out.2 e he) hg
              omega
            · rw [← hin]
              exact OwnR.turned HOR.out tr (fun _ _ e => e))
          go_frame
          go_loopw [6] (fun ov W => RngRel w W3.heap.size W0.heap.size wr.heap.size (2 * i) get S c l Lf (.slice ra rn rcap) ov W) (fun _ W => W.rangeLeft W0.heap.size wr.heap.size)
          case atStart => exact HRW.out
          case round =>
            obtain ⟨left, cnt2, E2, hra, hcnt, hblr, hBr⟩ := hrel
            have HRA := hid hra
            have HCN := hid hcnt
            have HBR := hid hBr
            obtain ⟨oa, ocap, hos⟩ := OwnR.slice hra.tin.1
            rw [List.length_map] at hos
            obtain ⟨on, hon⟩ : ∃ on, on = E2.length := ⟨_, rfl⟩
            rw [← hon] at hos
            have HON := hid hon
            subst hos
            clear hra hcnt hBr hon
            go_wp2_with (refine wpList_nextV rfl (.tmp 62) rfl law39 rfl HRA.out.rng HRA.out.has ?_ ?_
                         intro hd
                         have HD := hid hd
                         clear hd
                         rotate_left
                         intro key vv kl2 W10 cnt3 hk2 hl2 hg2 hr10 hlt hgr10 hsz10 hen
                         obtain ⟨k, hks, hkL, rfl⟩ := HGR.out.back kl2 vv hg2
                         obtain rfl := law39.inj hk2 (key_lit k hks)
                         obtain ⟨va, vcap, hvs⟩ := OwnP.slice (HRA.out.own k hks vv hg2 hl2)
                         obtain ⟨vn, hvn⟩ : ∃ vn, vn = (grp S c l Lf Lf.length k).length := ⟨_, rfl⟩
                         rw [← hvn] at hvs
                         subst hvs
                         have HVN := hid hvn
                         have HKY := hid (show ∃ k', k' = k from ⟨k, rfl⟩)
                         obtain ⟨k0, k1, k2, k3⟩ := k
                         simp only [Ky.row] at hen ⊢
                         have HKS2 := hid hks
                         have HKL := hid hkL
                         have HL2 := hid hl2
                         have HG2 := hid hg2
                         have HR10 := hid hr10
                         have HLT := hid hlt
                         have HG10 := hid hgr10
                         have HS10 := hid hsz10
                         clear hks hkL hl2 hg2 hr10 hlt hgr10 hsz10 hvn hk2
                         rotate_right)
            · have hcn := HCN.out
              refine ⟨⟨l + 1, rst S c l Lf Lf.length, E2, by omega, by go_num, ?_, OwnR.mono HRA.out.rest (by omega), HRA.out.tin, HRA.out.done HD.out, HRA.out.keys, by omega, HBR.out⟩, by simp [intOf]; omega⟩
              have h1 := HLF.out.next
              unfold rst
              rw [List.take_length]
              exact h1
            · have HV10 := hid (show OwnP W10 W3.heap.size (.slice va vn vcap) (grp S c l Lf Lf.length ⟨k0, k1, k2, k3⟩) from OwnR.turned (HRA.out.own _ HKS2.out _ HG2.out HL2.out) (turned_grown HG10.out) (fun b hb e => own_iter (HRA.out.own _ HKS2.out _ HG2.out HL2.out) HRA.out.rng hb (by injection e)))
              have HA10 := hid (show Below W10.heap.size W10 (W10.alloc (.cells #[.int .i64 k0, .int .i64 k1, .int .i64 k2, .int .i64 k3] 39)) from (Below.refl _ _).alloc (Nat.le_refl _) _)
              have HIN := hid (show ∀ p ∈ grp S c l Lf Lf.length ⟨k0, k1, k2, k3⟩, p.fine from fun p hp => by
                have h1 := (grp_mem.1 hp).1
                rw [List.take_length] at h1
                exact HF.out p (HLF.out.mem.1 h1).1)
              have HGL := hid (show (grp S c l Lf Lf.length ⟨k0, k1, k2, k3⟩).length ≤ 4096 from by
                refine Nat.le_trans (List.length_filter_le _ _) ?_
                rw [List.take_length, ← HNL.out]
                exact hn4)
              refine (sortId_any (.slice va vn vcap) (grp S c l Lf Lf.length ⟨k0, k1, k2, k3⟩) W3.heap.size _ (OwnR.grow' HV10.out HA10.out) (by have := HGL.out; omega) (fun p hp => (HIN.out p hp).1)).mono ?_
              rintro r W11 ⟨rfl, pts, hperm, hasc, hown11, hg11⟩
              have hvlt : ∀ j, (Value.slice va vn vcap).ownBlock = some j → j < W10.heap.size := fun j hj => OwnR.lt HV10.out hj
              have hk11 : W11.heap[W10.heap.size]? = some (.cells #[.int .i64 k0, .int .i64 k1, .int .i64 k2, .int .i64 k3] 39) := (hg11.block W10.heap.size (by simp) (fun e => by have := hvlt _ e.symm; omega)).trans (heap_alloc_at _ _ _ rfl)
              have q0 : W11.cell? ⟨W10.heap.size, 0, none⟩ = some (.int .i64 k0) := (cell_row (j := 0) hk11).trans rfl
              have q1 : W11.cell? ⟨W10.heap.size, 1, none⟩ = some (.int .i64 k1) := (cell_row (j := 1) hk11).trans rfl
              have q2 : W11.cell? ⟨W10.heap.size, 2, none⟩ = some (.int .i64 k2) := (cell_row (j := 2) hk11).trans rfl
              have q3 : W11.cell? ⟨W10.heap.size, 3, none⟩ = some (.int .i64 k3) := (cell_row (j := 3) hk11).trans rfl
              have HG11 := hid hg11
              have HP11 := hid hperm
              have HC11 := hid hasc
              have HO11 := hid (show OwnP W11 W3.heap.size (.slice va vn vcap) pts from hown11)
              have HA11 := hid (show Below W11.heap.size W11 (W11.alloc (.cells #[.int .i64 k0, .int .i64 k1, .int .i64 k2, .int .i64 k3, .slice va vn vcap] 49)) from (Below.refl _ _).alloc (Nat.le_refl _) _)
              have HOV := hid (range_own HRA.out (HRA.out.own _ HKS2.out _ HG2.out HL2.out) HG10.out HA10.out HG11.out HA11.out)
              have HRW4 := hid (show RowsAt (W11.alloc (.cells #[.int .i64 k0, .int .i64 k1, .int .i64 k2, .int .i64 k3, .slice va vn vcap] 49)) W11.heap.size 0 5 [[.int .i64 k0, .int .i64 k1, .int .i64 k2, .int .i64 k3, .slice va vn vcap]] from RowsAt.one (heap_alloc_at _ _ _ rfl))
              have hcn := HCN.out
              have HL4 := hid (show (E2.map Te.row).length + 1 ≤ maxLen by rw [List.length_map]; unfold maxLen; omega)
              have HL5 := hid (show ((E2.map Te.row).length + 1) * 56 ≤ 140737488355328 by rw [List.length_map]; omega)
              have hz10 := HG10.out.size
              have hz11 := HG11.out.size
              have hza := HA10.out.size
              have hzb := HA11.out.size
              have HB4 := hid (show w.heap.size ≤ (W11.alloc (.cells #[.int .i64 k0, .int .i64 k1, .int .i64 k2, .int .i64 k3, .slice va vn vcap] 49)).heap.size by omega)
              have HB5 := hid (show W3.heap.size ≤ (W11.alloc (.cells #[.int .i64 k0, .int .i64 k1, .int .i64 k2, .int .i64 k3, .slice va vn vcap] 49)).heap.size by omega)
              have HVB := hid (show ∀ j, (Value.slice va vn vcap).ownBlock = some j → w.heap.size ≤ j from fun j hj => by have := OwnR.ownBlock HV10.out j hj; omega)
              clear hk11 hg11 hperm hasc hown11 hvlt hcn hz10 hz11 hza hzb
              go_wp2_with (first
                | (at_builtin
                   refine wpList_append_rows rfl (.tmp 70) (.tmp 74) 24 rfl w.heap.size 49 i1 _ 5 56 Try.underlying24 JI.out JZ0.out JZ1.out JZ2.out rfl (by decide) (.slice oa on ocap) _ [[.int .i64 k0, .int .i64 k1, .int .i64 k2, .int .i64 k3, .slice va vn vcap]] rfl HOV.out W11.heap.size 0 1 1 rfl rfl HRW4.out (wide5 _ _ _ _ _ _ _) HL4.out HL5.out HB4.out ?_
                   intro v12 W12 hown12 hg12 halt12
                   have HO12 := hid hown12
                   have HG12 := hid hg12
                   clear hown12 hg12 halt12))
              have h12 := range_end HRA.out HS.out HF.out HLF.out hl12 (by omega) (HNL.out ▸ HGR.out) HAP.out HKS2.out HKL.out HL2.out HG2.out HR10.out HG10.out HA10.out HG11.out HO11.out HP11.out (HC11.out.imp (fun h => by omega)) HA11.out HG12.out HO12.out rfl
              have hlt3 := HLT.out
              have hcn := HCN.out
              refine ⟨⟨_, cnt3, _, h12, by rw [List.length_append]; show E2.length + 1 + cnt3 ≤ _; omega, Nat.le_trans HB5.out HG12.out.size, ?_⟩, ?_⟩
              · have b10 : Below w.heap.size w W10 := HBR.out.grown HG10.out HBR.out.size (fun j hj => by injection hj with hj; omega)
                have b11 : Below w.heap.size w W11 := (b10.alloc b10.size _).grown HG11.out (base_alloc b10.size _) (fun j hj => HVB.out j hj)
                exact (b11.alloc b11.size _).grown HG12.out (base_alloc b11.size _) (fun j hj => OwnR.ownBlock HOV.out j hj)
              · rw [h12.rng.left_eq, HRA.out.rng.left_eq]
                exact hlt3
    · have HNIL := hid (show Lf = [] by
        by_cases hl13 : l ≤ 12
        · have h0 : n = 0 := by omega
          rw [HNL.out] at h0
          exact List.eq_nil_of_length_eq_zero h0
        · obtain rfl : l = 13 := by omega
          exact HLF.out.end13)
      have HALL := hid (show Tiles (fun p k => p ∈ S ∧ isAt S c p k) (E.map Te.tl) from HTL.out.congr (fun p k => ⟨fun h => ⟨h.1, h.2.1⟩, fun h => ⟨h.1, h.2, (HNIL.out ▸ HLF.out).none h.1 h.2⟩⟩))
      have HLE := hid (show E.length < 4611686018427387904 by have := HEL.out; omega)
      by_cases hl12 : l ≤ 12
      · have h0 : n = 0 := by omega
        subst h0
        have d1 : decide ((l : Int) ≤ 12) = true := decide_eq_true (by omega)
        clear hgo
        go_wp2_with fail
        refine (sortKey_any u6 E w.heap.size wr HTE.out.1 HLE.out HKS.out).mono ?_
        rintro r W5 ⟨rfl, E', hperm, hpw, hown, hg⟩
        have HRES := hid (show TilesIn W5 w.heap.size u6 E' ∧ IsLayout S c (E'.map Te.tl) from by
          have ht := HALL.out.perm (hperm.symm.map Te.tl)
          refine ⟨⟨hown, fun e he => OwnR.turned (HTE.out.2 e (hperm.mem_iff.1 he)) (turned_grown hg) (fun b hb e2 => own_apart (HTE.out.2 e (hperm.mem_iff.1 he)) HTE.out.1 (by decide) hb e2.symm)⟩, order_strict ht ?_, ht⟩
          rw [List.pairwise_map]
          exact hpw)
        have HBE := hid (show Below w.heap.size w W5 from HBW.out.grown hg hzw (fun j hj => OwnR.ownBlock HTE.out.1 j hj))
        clear hperm hpw hown hg
        go_wp2_with fail
        go_ret
        exact ⟨⟨u6, E', rfl, HRES.out⟩, HBE.out⟩
      · have d1 : decide ((l : Int) ≤ 12) = false := decide_eq_false (by omega)
        clear hgo
        go_wp2_with fail
        refine (sortKey_any u6 E w.heap.size wr HTE.out.1 HLE.out HKS.out).mono ?_
        rintro r W5 ⟨rfl, E', hperm, hpw, hown, hg⟩
        have HRES := hid (show TilesIn W5 w.heap.size u6 E' ∧ IsLayout S c (E'.map Te.tl) from by
          have ht := HALL.out.perm (hperm.symm.map Te.tl)
          refine ⟨⟨hown, fun e he => OwnR.turned (HTE.out.2 e (hperm.mem_iff.1 he)) (turned_grown hg) (fun b hb e2 => own_apart (HTE.out.2 e (hperm.mem_iff.1 he)) HTE.out.1 (by decide) hb e2.symm)⟩, order_strict ht ?_, ht⟩
          rw [List.pairwise_map]
          exact hpw)
        have HBE := hid (show Below w.heap.size w W5 from HBW.out.grown hg hzw (fun j hj => OwnR.ownBlock HTE.out.1 j hj))
        clear hperm hpw hown hg
        go_wp2_with fail
        go_ret
        exact ⟨⟨u6, E', rfl, HRES.out⟩, HBE.out⟩
end Go.Proofs.Yteanlcefdoigcaa
