/- The bytes that the reference writes for a tile. -/
import Derived.Test.YteanlcefdoigcaaEncX
namespace Go.Proofs.Yteanlcefdoigcaa
open Go.RowKit

set_option maxRecDepth 100000 in
theorem big4_any (c : Nat) (w : World) (hc : c < 4294967296) :
    Calls Try.prog 120 #[.int .u64 c, .int .i64 4] w fun e w' => (∃ g, e = .returned (.slice (some ⟨g, 0, none⟩) 4 4) ∧ w.heap.size ≤ g ∧ w'.heap[g]? = some (.cells #[.int .u8 ((c / 16777216 % 256 : Nat) : Int), .int .u8 ((c / 65536 % 256 : Nat) : Int), .int .u8 ((c / 256 % 256 : Nat) : Int), .int .u8 ((c % 256 : Nat) : Int)] 5)) ∧ Below w.heap.size w w' := by
  obtain ⟨i0, hi, hz0, hz1, hz2⟩ := info_parts info5
  have HI := hid hi
  have HZ0 := hid hz0
  have HZ1 := hid hz1
  have HZ2 := hid hz2
  clear hi hz0 hz1 hz2
  go_enter Try.func120, Try.ntmps120
  have HM := hid (show madeCells #[Value.int .u8 0] 4 = #[.int .u8 0, .int .u8 0, .int .u8 0, .int .u8 0] by kernel_rfl)
  go_wp2_with (refine wpList_make_lc _ rfl (.tmp 7) (.tmp 7) 70 rfl 5 i0 (.int .u8 0) Try.underlying70 HI.out HZ0.out HZ1.out rfl .i64 .i64 _ _ 4 4 rfl rfl (by omega) (by omega) (by omega) (by rw [HZ2.out]; omega) (by omega) ?_; rw [HM.out])
  refine wp_loop_rounds 5 ?_
  rw [rounds_succ]
  go_wp2_with fail
  rw [rounds_succ]
  go_wp2_with fail
  rw [rounds_succ]
  go_wp2_with fail
  rw [rounds_succ]
  go_wp2_with fail
  rw [rounds_succ]
  go_wp2_with fail
  go_ret
  have e1 : ((c / 16777216 % 256 : Nat) : Int) = (c : Int) / 256 / 256 / 256 % 256 := by omega
  have e2 : ((c / 65536 % 256 : Nat) : Int) = (c : Int) / 256 / 256 % 256 := by omega
  have e3 : ((c / 256 % 256 : Nat) : Int) = (c : Int) / 256 % 256 := by omega
  have e4 : ((c % 256 : Nat) : Int) = (c : Int) % 256 := by omega
  rw [e1, e2, e3, e4]
  exact ⟨⟨_, rfl, Nat.le_refl _, heap_alloc_at _ _ _ rfl⟩, (Below.refl _ _).alloc (Nat.le_refl _) _⟩
theorem four_row {w : World} {c g : Nat} (h : w.heap[g]? = some (.cells #[.int .u8 ((c / 16777216 % 256 : Nat) : Int), .int .u8 ((c / 65536 % 256 : Nat) : Int), .int .u8 ((c / 256 % 256 : Nat) : Int), .int .u8 ((c % 256 : Nat) : Int)] 5)) :
    ∀ (j : Nat) (u : Value), (u8s (bytes4 c))[j]? = some u → w.cell? ((⟨g, 0, none⟩ : Addr).add j) = some u := by
  intro j u hj
  have ha : ((⟨g, 0, none⟩ : Addr).add j) = ⟨g, j, none⟩ := by simp [Addr.add]; exact fun h => h.symm
  rw [ha, cell_row h, ← hj]
  simp [u8s, bytes4]
set_option maxRecDepth 100000 in
theorem rClosed_any (B : Nat) (v : Value) (xs : List Nat) (w : World) (ho : OwnB w B v xs) (hB : B ≤ w.heap.size) (hp : 0 < xs.length) (hx : xs.length ≤ 900000) (hg : ∀ x ∈ xs, x < 256) :
    Calls Try.prog 91 #[v] w fun e w' => (∃ v', e = .returned v' ∧ OwnB w' B v' (xs ++ bytes4 (crcL xs))) ∧ Below B w w' := by
  have HO := hid ho
  rcases ho.cases with ⟨rfl, rfl⟩ | ⟨g, cap, rfl, hgB, _⟩
  · cases hp
  obtain ⟨i0, hi, hz0, hz1, hz2⟩ := info_parts info5
  have HI := hid hi
  have HZ0 := hid hz0
  have HZ1 := hid hz1
  have HZ2 := hid hz2
  have HS := hid (rSum_any g 0 xs.length cap (fun i => xs.getD i 0) w (by omega) (getD_byte hg) (u8s_cells ho.1))
  have HCB := hid (crcL_lt xs)
  have HCL := hid (show crcV (fun i => xs.getD i 0) xs.length = crcL xs from rfl)
  rw [HCL.out] at HS
  generalize crcL xs = c at *
  obtain ⟨n, hnx⟩ : ∃ n, xs.length = n := ⟨_, rfl⟩
  have HNX := hid hnx
  have HO1 := hid ho.1
  rw [hnx] at HS HO1 hp hx
  clear hnx ho hi hz0 hz1 hz2 hg
  have hcb := HCB.out
  go_enter Try.func91, Try.ntmps91
  rw [HNX.out]
  go_wp2_with fail
  refine HS.out.mono ?_
  rintro r w1 ⟨rfl, rfl⟩
  go_wp2_with fail
  refine (big4_any c w HCB.out).mono ?_
  rintro r w2 ⟨⟨g2, rfl, hg2, hr2⟩, hb2⟩
  have HB2 := hid hb2
  have HO2 := hid (HO1.out.kept (w' := w2) (row := none) ⟨hb2.os, hb2.tape, hb2.output, hb2.size, fun k hk _ => hb2.block k hk⟩ (by simp [Value.ownBlock]))
  have HN2 := hid (four_row (c := c) hr2)
  have hz2 := hb2.size
  clear hb2 hr2
  go_wp2_with (at_builtin; refine wpList_append_own _ rfl (.tmp 3) (.tmp 7) 70 rfl B 5 i0 (.int .u8 0) 1 1 Try.underlying70 HI.out HZ0.out HZ1.out HZ2.out rfl (by decide) _ n (u8s xs) rfl HO2.out ⟨g2, 0, none⟩ 4 4 (u8s (bytes4 c)) rfl rfl HN2.out (u8s_one _) (by unfold maxLen; omega) (by omega) (by omega) ?_; intro v' w3 hown3 hgrow3 hnil3; have HO3 := hid (own4 (c := c) hown3 HNX.out); have HB3 := hid ((HB2.out.mono hB).grown hgrow3 (by omega) (fun k hk => by have h1 : g = k := Option.some.inj hk; omega)); clear hown3 hgrow3 hnil3)
  go_ret
  exact ⟨⟨_, rfl, HO3.out⟩, HB3.out⟩
set_option maxRecDepth 100000 in
set_option maxHeartbeats 3200000 in
theorem rPoints_any (B : Nat) (bv v : Value) (P : List Pt) (xs : List Nat) (w : World) (ho : OwnB w B bv xs) (hB : B ≤ w.heap.size) (hx : xs.length ≤ 1000) (hp : PtsV w v P) (hP : NumsOk P) (hl : P.length ≤ 1024) :
    Calls Try.prog 92 #[bv, v] w fun e w' => (∃ v', e = .returned v' ∧ OwnB w' B v' (xs ++ encPs 0 P)) ∧ Below w.heap.size w w' := by
  have HN := hid hP
  obtain ⟨a, cap, rfl, hpd⟩ := hp
  obtain ⟨n, hnl⟩ : ∃ n, n = P.length := ⟨_, rfl⟩
  have HPD := hid hpd
  have HO := hid ho
  have HNL := hid hnl
  have hl1 : n ≤ 1024 := by omega
  rw [← hnl]
  obtain ⟨pb, nb, cb, rfl⟩ := ho.shape
  clear hP hpd ho hnl
  go_enter Try.func92, Try.ntmps92
  go_wp2_with fail
  go_loopw [0, 5, 12] (fun bv lv i wr => ∃ k : Nat, k ≤ n ∧ i = .int .i64 (k : Int) ∧ lv = .int .i64 (endL 0 (P.take k)) ∧ OwnB wr B bv (xs ++ encPs 0 (P.take k)) ∧ Below w.heap.size w wr) (fun _ _ i _ => n - (intOf i).toNat)
  case atStart => exact ⟨0, by omega, rfl, rfl, by simpa [encPs] using HO.out, Below.refl _ _⟩
  case round =>
    obtain ⟨k, hk, rfl, rfl, ho2, hb2⟩ := hrel
    have HO2 := hid ho2
    have HB2 := hid hb2
    have hz2 := hb2.size
    clear hb2 ho2
    by_cases hlt : k < n
    · obtain ⟨p, hpk⟩ : ∃ p, P[k]? = some p := ⟨_, List.getElem?_eq_getElem (by rw [← HNL.out]; exact hlt)⟩
      have hne0 : P ≠ [] := fun e => by subst e; simp at hpk
      obtain ⟨b, off, rfl, hbw, hrows⟩ := HPD.out.resolve_left hne0
      have hnm := HN.out k p hpk
      have HLEN := hid (show (xs ++ encPs 0 (P.take k)).length ≤ 90000 by
        have h1 := encPs_len HN.out k (by rw [← HNL.out]; omega)
        simp
        omega)
      have HEN := hid (endL_snoc 0 p (P.take k))
      have HES := hid (show xs ++ encPs 0 (P.take k ++ [p]) = xs ++ encPs 0 (P.take k) ++ encP (endL 0 (P.take k)) p by rw [encPs_snoc]; simp only [List.append_assoc])
      have HTN := hid (take_next hpk)
      have hcs : ∀ q, q < 9 → wr.cell? ⟨b, off + k * 9 + q, none⟩ = some (.int .i64 (p.f q)) := fun q hq => by
        rw [HB2.out.cell hbw, hrows k p.row (by rw [List.getElem?_map, hpk]; rfl) q hq, Pt.row_at p q hq]
      have hx1 := hnm.id
      have hx2 := hnm.i
      have hx3 := hnm.l
      have hx4 := hnm.z
      have hx5 := hnm.h
      have HNM := hid hnm
      clear hpk hrows hnm
      generalize hle : endL 0 (P.take k) = le at *
      generalize xs ++ encPs 0 (P.take k) = ys at *
      obtain ⟨p0, p1, p2, p3, p4, p5, p6, p7, p8⟩ := p
      simp only at hx1 hx2 hx3 hx4 hx5
      have a0 : wr.cell? ⟨b, off + k * 9, none⟩ = some (.int .i64 p0) := hcs 0 (by decide)
      have a1 : wr.cell? ⟨b, off + k * 9 + 1, none⟩ = some (.int .i64 p1) := hcs 1 (by decide)
      have a2 : wr.cell? ⟨b, off + k * 9 + 2, none⟩ = some (.int .i64 p2) := hcs 2 (by decide)
      have a3 : wr.cell? ⟨b, off + k * 9 + 3, none⟩ = some (.int .i64 p3) := hcs 3 (by decide)
      have a4 : wr.cell? ⟨b, off + k * 9 + 4, none⟩ = some (.int .i64 p4) := hcs 4 (by decide)
      have a5 : wr.cell? ⟨b, off + k * 9 + 5, none⟩ = some (.int .i64 p5) := hcs 5 (by decide)
      have a6 : wr.cell? ⟨b, off + k * 9 + 6, none⟩ = some (.int .i64 p6) := hcs 6 (by decide)
      have a7 : wr.cell? ⟨b, off + k * 9 + 7, none⟩ = some (.int .i64 p7) := hcs 7 (by decide)
      have a8 : wr.cell? ⟨b, off + k * 9 + 8, none⟩ = some (.int .i64 p8) := hcs 8 (by decide)
      have hq1 := HNM.out.x
      have hq2 := HNM.out.y
      have hq3 := HNM.out.wd
      have hq4 := HNM.out.nm
      have hq5 := HNM.out.of
      have hq6 := HNM.out.cl
      simp only at hq1 hq2 hq3 hq4 hq5 hq6
      have HL1 := hid (encs_len (f := encU) (m := 9) [p0 - le] (fun z hz => nat_len (by simp at hz; omega)))
      have HL2 := hid (zig_len (z := p1) (by omega))
      have HL3 := hid (zig_len (z := p2) (by omega))
      clear hcs
      go_wp2_with fail
      clear a0 a1 a2 a3 a4 a5 a6 a7 a8
      refine (rNumbers_own (B := B) (lb := wr.heap.size + 1) (lo := 0) (lc := 1) (m := 1) (zs := [p0 - le]) (xs := ys) (HO2.out.grow (by repeat' (first | (with_reducible exact Below.refl _ _) | (with_reducible assumption) | (with_reducible refine Below.alloc ?_ ?_ _) | (with_reducible refine Below.drew ?_) | (with_reducible refine below_drewN ?_ _) | go_size))) (by simp; omega) (by have := HLEN.out; omega) (by simp; omega) rfl (by omega) (row_new (zs := [p0 - le]) (by simp) rfl rfl) (by simp)).mono ?_
      rintro r w3 ⟨⟨v3, rfl, ho3⟩, hb3⟩
      have HO3 := hid ho3
      have HB3 := hid ((show Below wr.heap.size wr _ from (by repeat' (first | (with_reducible exact Below.refl _ _) | (with_reducible assumption) | (with_reducible refine Below.alloc ?_ ?_ _) | (with_reducible refine Below.drew ?_) | (with_reducible refine below_drewN ?_ _) | go_size))).trans (hb3.mono (by simp; omega)))
      have HP3 := hid (show w3.heap[wr.heap.size]? = some (.cells #[.int .i64 p0, .int .i64 p1, .int .i64 p2, .int .i64 p3, .int .i64 p4, .int .i64 p5, .int .i64 p6, .int .i64 p7, .int .i64 p8] 36) from heap_still hb3 (heap_alloc_past _ _ _ _ (heap_alloc_at _ _ _ rfl)))
      have hz3 := hb3.size
      simp at hz3
      clear ho3 hb3
      have w3c0 : w3.cell? ⟨wr.heap.size, 0, none⟩ = some (.int .i64 p0) := (cell_row (j := 0) HP3.out).trans rfl
      have w3c1 : w3.cell? ⟨wr.heap.size, 1, none⟩ = some (.int .i64 p1) := (cell_row (j := 1) HP3.out).trans rfl
      have w3c2 : w3.cell? ⟨wr.heap.size, 2, none⟩ = some (.int .i64 p2) := (cell_row (j := 2) HP3.out).trans rfl
      have w3c3 : w3.cell? ⟨wr.heap.size, 3, none⟩ = some (.int .i64 p3) := (cell_row (j := 3) HP3.out).trans rfl
      have w3c4 : w3.cell? ⟨wr.heap.size, 4, none⟩ = some (.int .i64 p4) := (cell_row (j := 4) HP3.out).trans rfl
      have w3c5 : w3.cell? ⟨wr.heap.size, 5, none⟩ = some (.int .i64 p5) := (cell_row (j := 5) HP3.out).trans rfl
      have w3c6 : w3.cell? ⟨wr.heap.size, 6, none⟩ = some (.int .i64 p6) := (cell_row (j := 6) HP3.out).trans rfl
      have w3c7 : w3.cell? ⟨wr.heap.size, 7, none⟩ = some (.int .i64 p7) := (cell_row (j := 7) HP3.out).trans rfl
      have w3c8 : w3.cell? ⟨wr.heap.size, 8, none⟩ = some (.int .i64 p8) := (cell_row (j := 8) HP3.out).trans rfl
      go_wp2_with fail
      clear w3c0 w3c1 w3c2 w3c3 w3c4 w3c5 w3c6 w3c7 w3c8
      have HC := hid (row_new (w := w3) (zs := [p1, p2, p3]) (cs := #[.int .i64 p1, .int .i64 p2, .int .i64 p3]) rfl rfl (m := 3) rfl)
      have HB4 := hid (show Below wr.heap.size wr (w3.alloc (.cells #[.int .i64 p1, .int .i64 p2, .int .i64 p3] 3)) from HB3.out.alloc (by omega) _)
      have HO4 := hid (HO3.out.grow ((Below.refl w3.heap.size w3).alloc (Nat.le_refl _) (.cells #[.int .i64 p1, .int .i64 p2, .int .i64 p3] 3)))
      have HP4 := hid (heap_alloc_past w3 (.cells #[.int .i64 p1, .int .i64 p2, .int .i64 p3] 3) _ _ HP3.out)
      have hz4 : (w3.alloc (.cells #[.int .i64 p1, .int .i64 p2, .int .i64 p3] 3)).heap.size = w3.heap.size + 1 := by simp
      generalize w3.alloc (.cells #[.int .i64 p1, .int .i64 p2, .int .i64 p3] 3) = w4 at *
      have m0 : w4.cell? ⟨w3.heap.size, 0, none⟩ = some (.int .i64 p1) := HC.out 0 (by decide)
      have m1 : w4.cell? ⟨w3.heap.size, 1, none⟩ = some (.int .i64 p2) := HC.out 1 (by decide)
      have m2 : w4.cell? ⟨w3.heap.size, 2, none⟩ = some (.int .i64 p3) := HC.out 2 (by decide)
      clear HB3 HO3 HP3 HC
      refine wp_loop_rounds 4 ?_
      rw [rounds_succ]
      go_wp2_with fail
      refine (rSigned_own (HO4.out.base (Nat.zero_le _)) (by have := HLEN.out; have := HL1.out; simp at this ⊢; omega) (by omega)).mono ?_
      rintro r w5 ⟨⟨v5, rfl, ho5⟩, hb5⟩
      have HO5 := hid ho5
      have HB5 := hid (HB4.out.trans (hb5.mono HB4.out.size))
      have HP5 := hid (heap_still hb5 HP4.out)
      have n1 : w5.cell? ⟨w3.heap.size, 1, none⟩ = some (.int .i64 p2) := by rw [hb5.cell (by simp; omega)]; exact m1
      have n2 : w5.cell? ⟨w3.heap.size, 2, none⟩ = some (.int .i64 p3) := by rw [hb5.cell (by simp; omega)]; exact m2
      have hz5 := hb5.size
      clear ho5 hb5 m0 m1 m2 HO4 HB4 HP4
      go_wp2_with fail
      rw [rounds_succ]
      go_wp2_with fail
      refine (rSigned_own (HO5.out.base (Nat.zero_le _)) (by have := HLEN.out; have := HL1.out; have := HL2.out; simp at * ; omega) (by omega)).mono ?_
      rintro r w6 ⟨⟨v6, rfl, ho6⟩, hb6⟩
      have HO6 := hid ho6
      have HB6 := hid (HB5.out.trans (hb6.mono HB5.out.size))
      have HP6 := hid (heap_still hb6 HP5.out)
      have k2 : w6.cell? ⟨w3.heap.size, 2, none⟩ = some (.int .i64 p3) := by rw [hb6.cell (by simp; omega)]; exact n2
      have hz6 := hb6.size
      clear ho6 hb6 n1 n2 HO5 HB5 HP5
      go_wp2_with fail
      rw [rounds_succ]
      go_wp2_with fail
      refine (rSigned_own (HO6.out.base (Nat.zero_le _)) (by have := HLEN.out; have := HL1.out; have := HL2.out; have := HL3.out; simp at * ; omega) (by omega)).mono ?_
      rintro r w7 ⟨⟨v7, rfl, ho7⟩, hb7⟩
      have HO7 := hid ho7
      have HB7 := hid (HB6.out.trans (hb7.mono HB6.out.size))
      have HP7 := hid (heap_still hb7 HP6.out)
      have hz7 := hb7.size
      clear ho7 hb7 k2 HO6 HB6 HP6
      go_wp2_with fail
      rw [rounds_succ]
      have w7c0 : w7.cell? ⟨wr.heap.size, 0, none⟩ = some (.int .i64 p0) := (cell_row (j := 0) HP7.out).trans rfl
      have w7c1 : w7.cell? ⟨wr.heap.size, 1, none⟩ = some (.int .i64 p1) := (cell_row (j := 1) HP7.out).trans rfl
      have w7c2 : w7.cell? ⟨wr.heap.size, 2, none⟩ = some (.int .i64 p2) := (cell_row (j := 2) HP7.out).trans rfl
      have w7c3 : w7.cell? ⟨wr.heap.size, 3, none⟩ = some (.int .i64 p3) := (cell_row (j := 3) HP7.out).trans rfl
      have w7c4 : w7.cell? ⟨wr.heap.size, 4, none⟩ = some (.int .i64 p4) := (cell_row (j := 4) HP7.out).trans rfl
      have w7c5 : w7.cell? ⟨wr.heap.size, 5, none⟩ = some (.int .i64 p5) := (cell_row (j := 5) HP7.out).trans rfl
      have w7c6 : w7.cell? ⟨wr.heap.size, 6, none⟩ = some (.int .i64 p6) := (cell_row (j := 6) HP7.out).trans rfl
      have w7c7 : w7.cell? ⟨wr.heap.size, 7, none⟩ = some (.int .i64 p7) := (cell_row (j := 7) HP7.out).trans rfl
      have w7c8 : w7.cell? ⟨wr.heap.size, 8, none⟩ = some (.int .i64 p8) := (cell_row (j := 8) HP7.out).trans rfl
      go_wp2_with fail
      clear w7c0 w7c1 w7c2 w7c3 w7c4 w7c5 w7c6 w7c7 w7c8
      refine (rNumbers_own (B := B) (lb := w7.heap.size) (lo := 0) (lc := 5) (m := 5) (zs := [p4 - p3, p5, p6, p7, p8]) ((HO7.out.base (by omega)).grow (by repeat' (first | (with_reducible exact Below.refl _ _) | (with_reducible assumption) | (with_reducible refine Below.alloc ?_ ?_ _) | (with_reducible refine Below.drew ?_) | (with_reducible refine below_drewN ?_ _) | go_size))) (by simp; omega) (by have := HLEN.out; have := HL1.out; have := HL2.out; have := HL3.out; have := zig_len (z := p3) (by omega); simp at *; omega) (by simp; omega) rfl (by omega) (row_new (zs := [p4 - p3, p5, p6, p7, p8]) rfl rfl rfl) (by simp)).mono ?_
      rintro r w8 ⟨⟨v8, rfl, ho8⟩, hb8⟩
      have HO8 := hid ho8
      have HB8 := hid (HB2.out.trans ((HB7.out.trans ((show Below wr.heap.size w7 _ from (Below.refl _ _).alloc (by omega) _).trans (hb8.mono (by simp; omega)))).mono hz2))
      have HP8 := hid (show w8.heap[wr.heap.size]? = some (.cells #[.int .i64 p0, .int .i64 p1, .int .i64 p2, .int .i64 p3, .int .i64 p4, .int .i64 p5, .int .i64 p6, .int .i64 p7, .int .i64 p8] 36) from heap_still hb8 (heap_alloc_past _ _ _ _ HP7.out))
      clear ho8 hb8
      have w8c0 : w8.cell? ⟨wr.heap.size, 0, none⟩ = some (.int .i64 p0) := (cell_row (j := 0) HP8.out).trans rfl
      go_wp2_with fail
      refine ⟨⟨k + 1, by omega, by go_num, by rw [HTN.out, HEN.out], ?_, HB8.out⟩, by simp [intOf]; omega⟩
      rw [HTN.out, HES.out]
      have := HO8.out
      unfold encP
      simp only [encs, List.map_cons, List.map_nil, List.flatten_cons, List.flatten_nil, List.append_nil, List.append_assoc, encS] at this ⊢
      exact this
    · obtain rfl : k = n := by omega
      have HF := hid (show xs ++ encPs 0 (P.take k) = xs ++ encPs 0 P by rw [List.take_of_length_le (Nat.le_of_eq HNL.out.symm)])
      have d1 : decide ((k : Int) < (k : Int)) = false := by simp
      go_wp2_with fail
      go_ret
      rw [← HF.out]
      exact ⟨⟨_, rfl, HO2.out⟩, HB2.out⟩
set_option maxRecDepth 100000 in
set_option maxHeartbeats 1600000 in
theorem rEncode_any (k : Ky) (v : Value) (P : List Pt) (w : World) (hp : PtsV w v P) (hl : P.length ≤ maxLen) :
    Calls Try.prog 47 #[.agg #[.int .i64 k.L, .int .i64 k.x, .int .i64 k.y, .int .i64 k.z, v]] w fun e w' => EncRes w.heap.size ⟨k, P⟩ e w' ∧ Below w.heap.size w w' := by
  have HP := hid hp
  have HL := hid hl
  obtain ⟨a, cap, rfl, hpd⟩ := hp
  generalize hnl : P.length = n at *
  have HNL := hid hnl
  by_cases hT : TlOk ⟨k, P⟩
  · have HT := hid hT
    have HD := hid (decide_eq_true hT)
    have HN := hid (nums_ok hT.good hT.asc)
    have HL2 := hid (((goodL_iff P).1 hT.good).1)
    have hk := keyB_yes hT.key
    have hbl := encB_len hT
    have HEB := hid (show encB ⟨k, P⟩ = encs encU [k.L, k.x, k.y, k.z, (n : Int)] ++ encPs 0 P by
      unfold encB
      simp only [encs, List.map_cons, List.map_nil, List.flatten_cons, List.flatten_nil, List.append_nil, List.append_assoc, hnl])
    obtain ⟨kL, kx, ky, kz⟩ := k
    simp only at hk
    clear hT hpd hl
    have hn1k : n ≤ 1024 := by rw [← hnl]; exact HL2.out
    clear hnl
    go_enter Try.func47, Try.ntmps47
    go_wp2_with fail
    refine (rtile_any ⟨kL, kx, ky, kz⟩ (.slice a n cap) P _ (HP.out.still ((Below.refl _ _).alloc (Nat.le_refl _) _)) (by rw [HNL.out]; exact HL.out)).mono ?_
    rintro r w1 ⟨rfl, hb1⟩
    rw [HD.out]
    have HB1 := hid ((show Below w.heap.size w _ from (by repeat' (first | (with_reducible exact Below.refl _ _) | (with_reducible assumption) | (with_reducible refine Below.alloc ?_ ?_ _) | (with_reducible refine Below.drew ?_) | (with_reducible refine below_drewN ?_ _) | go_size))).trans (hb1.mono (by simp)))
    have HT1 := hid (heap_still hb1 (heap_alloc_at w (.cells #[.int .i64 kL, .int .i64 kx, .int .i64 ky, .int .i64 kz, .slice a n cap] 49) _ rfl))
    have hz1 := hb1.size
    simp at hz1
    clear hb1
    have b0 : w1.cell? ⟨w.heap.size, 0, none⟩ = some (.int .i64 kL) := (cell_row (j := 0) HT1.out).trans rfl
    have b1 : w1.cell? ⟨w.heap.size, 1, none⟩ = some (.int .i64 kx) := (cell_row (j := 1) HT1.out).trans rfl
    have b2 : w1.cell? ⟨w.heap.size, 2, none⟩ = some (.int .i64 ky) := (cell_row (j := 2) HT1.out).trans rfl
    have b3 : w1.cell? ⟨w.heap.size, 3, none⟩ = some (.int .i64 kz) := (cell_row (j := 3) HT1.out).trans rfl
    have b4 : w1.cell? ⟨w.heap.size, 4, none⟩ = some (.slice a n cap) := (cell_row (j := 4) HT1.out).trans rfl
    go_wp2_with fail
    clear b0 b1 b2 b3 b4
    refine (rNumbers_own (B := w.heap.size) (lb := w1.heap.size) (lo := 0) (lc := 5) (m := 5) (zs := [kL, kx, ky, kz, (n : Int)]) (OwnB.nil _ _) (by simp; omega) (by simp) (by simp; omega) rfl (by omega) (row_new (zs := [kL, kx, ky, kz, (n : Int)]) rfl rfl rfl) (by simp)).mono ?_
    rintro r w2 ⟨⟨v2, rfl, ho2⟩, hb2⟩
    have HO2 := hid ho2
    have HB2 := hid (HB1.out.trans ((show Below w.heap.size w1 _ from (Below.refl _ _).alloc (by omega) _).trans (hb2.mono (by simp; omega))))
    have HT2 := hid (show w2.heap[w.heap.size]? = some (.cells #[.int .i64 kL, .int .i64 kx, .int .i64 ky, .int .i64 kz, .slice a n cap] 49) from heap_still hb2 (heap_alloc_past _ _ _ _ HT1.out))
    have hz2 := hb2.size
    simp at hz2
    clear ho2 hb2
    have b4 : w2.cell? ⟨w.heap.size, 4, none⟩ = some (.slice a n cap) := (cell_row (j := 4) HT2.out).trans rfl
    go_wp2_with fail
    clear b4
    have HE1 := hid (encs_len (f := encU) (m := 9) [kL, kx, ky, kz, (n : Int)] (fun z hz => nat_len (by simp at hz; omega)))
    refine (rPoints_any w.heap.size v2 (.slice a n cap) P _ w2 HO2.out (by omega) (by have := HE1.out; simp at this ⊢; omega) (HP.out.still HB2.out) HN.out (by rw [HNL.out]; omega)).mono ?_
    rintro r w3 ⟨⟨v3, rfl, ho3⟩, hb3⟩
    have HO3 := hid (show OwnB w3 w.heap.size v3 (encB ⟨⟨kL, kx, ky, kz⟩, P⟩) from HEB.out ▸ ho3)
    have HB3 := hid (HB2.out.trans (hb3.mono (by omega)))
    have hz3 := hb3.size
    clear ho3 hb3
    go_wp2_with fail
    refine (rClosed_any w.heap.size v3 _ w3 HO3.out (by omega) hbl.1 (by omega) (encB_byte _)).mono ?_
    rintro r w4 ⟨⟨v4, rfl, ho4⟩, hb4⟩
    have HO4 := hid ho4
    have HB4 := hid (HB3.out.trans hb4)
    clear ho4 hb4
    go_wp2_with fail
    go_ret2
    exact ⟨Or.inl ⟨HT.out, _, rfl, HO4.out⟩, HB4.out⟩
  · have HT := hid hT
    have HD := hid (decide_eq_false hT)
    obtain ⟨kL, kx, ky, kz⟩ := k
    clear hT hpd hnl hl
    go_enter Try.func47, Try.ntmps47
    go_wp2_with fail
    refine (rtile_any ⟨kL, kx, ky, kz⟩ (.slice a n cap) P _ (HP.out.still ((Below.refl _ _).alloc (Nat.le_refl _) _)) (by rw [HNL.out]; exact HL.out)).mono ?_
    rintro r w1 ⟨rfl, hb1⟩
    rw [HD.out]
    have HB1 := hid ((show Below w.heap.size w _ from (by repeat' (first | (with_reducible exact Below.refl _ _) | (with_reducible assumption) | (with_reducible refine Below.alloc ?_ ?_ _) | (with_reducible refine Below.drew ?_) | (with_reducible refine below_drewN ?_ _) | go_size))).trans (hb1.mono (by simp)))
    clear hb1
    go_wp2_with fail
    go_ret2
    exact ⟨Or.inr ⟨HT.out, rfl⟩, HB1.out⟩
end Go.Proofs.Yteanlcefdoigcaa
