/- TileDisk: what a disk does for every script of calls, with losses of power, and that a fork is independent. Every input, no condition. (Printed by wip/gen_disklaw.py.) -/
import Derived.Test.YteanlcefdoigcaaDiskWA
import Derived.Test.YteanlcefdoigcaaLayX
import Derived.Test.YteanlcefdoigcaaRSort
import Derived.Test.YteanlcefdoigcaaLawKit
import Derived.SizedLaws
namespace Go.Proofs.Yteanlcefdoigcaa
open Go.ChangeShapes Go.WideShapes Go.ChangeAt Go.RowKit Go.Maps Go.Sort

/-- a step of the script -/
structure Wr where
  kd : Int
  fi : Int
  nn : Int
  bv : Value
  bs : List Nat
  k0 : Int
  k1 : Int
def Wr.row (p : Wr) : List Value := [.int .i64 p.kd, .int .i64 p.fi, .int .i64 p.nn, p.bv, .int .i64 p.k0, .int .i64 p.k1]
def WrOk (W : World) (B : Nat) (p : Wr) : Prop := ByB W B p.bv p.bs ∧ p.nn ≤ 9223372036854775807 ∧ p.bs.length ≤ maxLen
theorem ByB.below {W W' : World} {B : Nat} {v : Value} {bs : List Nat} (h : ByB W B v bs) (hb : Below B W W') : ByB W' B v bs := by
  rcases h with h | ⟨ad, c, h1, h2⟩
  · exact .inl h
  · refine .inr ⟨ad, c, h1, fun j u hu => ?_⟩
    obtain ⟨h3, h4⟩ := h2 j u hu
    exact ⟨by rw [World.cell?_of_block (hb.block _ h4)]; exact h3, h4⟩
theorem ByB.up {W : World} {B B' : Nat} {v : Value} {bs : List Nat} (h : ByB W B v bs) (hB : B ≤ B') : ByB W B' v bs := by
  rcases h with h | ⟨ad, c, h1, h2⟩
  · exact .inl h
  · exact .inr ⟨ad, c, h1, fun j u hu => ⟨(h2 j u hu).1, Nat.lt_of_lt_of_le (h2 j u hu).2 hB⟩⟩
theorem ByB.value {W : World} {B : Nat} {v : Value} {bs : List Nat} (h : ByB W B v bs) : ∃ a c, v = .slice a bs.length c := by
  rcases h with ⟨rfl, rfl⟩ | ⟨ad, c, rfl, _⟩
  · exact ⟨none, 0, rfl⟩
  · exact ⟨some ad, c, rfl⟩
/-- two disks, both below B -/
def PairL (W : World) (B n ga gb : Nat) : Prop := ∃ dn lf am x0 x1 y0 y1, Pair W 0 ga gb dn lf am x0 x1 y0 y1 ∧ x0.b.length ≤ n ∧ x1.b.length ≤ n ∧ (∀ k, foot ga x0 x1 k → k < B) ∧ ∀ k, foot gb y0 y1 k → k < B
theorem PairN.low {W : World} {B n ga gb : Nat} (h : PairN W B n ga gb) : PairL W W.heap.size n ga gb := by
  obtain ⟨dn, lf, am, x0, x1, y0, y1, h, h1, h2⟩ := h
  exact ⟨dn, lf, am, x0, x1, y0, y1, ⟨Dsk.mono h.x (Nat.zero_le _), Dsk.mono h.y (Nat.zero_le _), h.b0, h.b1, h.s0, h.s1, h.la, h.l0, h.l1, h.a0, h.a1, h.f0, h.f1, h.ap⟩, h1, h2, Dsk.foot_lt h.x, Dsk.foot_lt h.y⟩
theorem PairL.stay {W W' : World} {B n m ga gb : Nat} (h : PairL W B n ga gb) (hb : Below B W W') (hm : n ≤ m) : PairL W' B m ga gb := by
  obtain ⟨dn, lf, am, x0, x1, y0, y1, h, h1, h2, h3, h4⟩ := h
  have hf : Fr (fun k => B ≤ k) W W' := ⟨hb.os, hb.tape, hb.output, hb.size, fun k _ hn => hb.block k (by omega)⟩
  exact ⟨dn, lf, am, x0, x1, y0, y1, ⟨Dsk.frame h.x hf (fun k hk e => by have := h3 k hk; omega), Dsk.frame h.y hf (fun k hk e => by have := h4 k hk; omega), h.b0, h.b1, h.s0, h.s1, h.la, h.l0, h.l1, h.a0, h.a1, h.f0, h.f1, h.ap⟩, by omega, by omega, h3, h4⟩
theorem PairL.pair {W : World} {B n ga gb : Nat} (h : PairL W B n ga gb) : PairN W 0 n ga gb := by
  obtain ⟨dn, lf, am, x0, x1, y0, y1, h, h1, h2, _⟩ := h
  exact ⟨dn, lf, am, x0, x1, y0, y1, h, h1, h2⟩
def LeftR (W : World) (B n : Nat) (pl pw : Value) : Prop := (pl = .pointer none ∧ pw = .pointer none) ∨ ∃ gl gw, pl = .pointer (some ⟨gl, 0, none⟩) ∧ pw = .pointer (some ⟨gw, 0, none⟩) ∧ PairL W B n gl gw
theorem LeftR.stay {W W' : World} {B n m : Nat} {pl pw : Value} (h : LeftR W B n pl pw) (hb : Below B W W') (hm : n ≤ m) : LeftR W' B m pl pw := by
  rcases h with h | ⟨gl, gw, h1, h2, h3⟩
  · exact .inl h
  · exact .inr ⟨gl, gw, h1, h2, h3.stay hb hm⟩
def LoopR (w : World) (n : Nat) (iv pa pb pl pw : Value) (W : World) : Prop :=
  ∃ (i B ga gb : Nat), i ≤ n ∧ iv = .int .i64 (i : Int) ∧ pa = .pointer (some ⟨ga, 0, none⟩) ∧ pb = .pointer (some ⟨gb, 0, none⟩) ∧ PairN W B (64 * i) ga gb ∧ w.heap.size ≤ B ∧ B ≤ W.heap.size ∧ Below w.heap.size w W ∧ LeftR W B (64 * i) pl pw
/-- both are forked -/
theorem fork_pair {W w1 w2 : World} {n : Nat} {B ga gb : Nat} : (∀ (dn : Bool) (lf am : Int) (x0 x1 y0 y1 : Fl), Pair W B ga gb dn lf am x0 x1 y0 y1 → ∀ ga2 gb2 v0 v1 u0 u1, DX w1 W.heap.size ga2 dn lf ⟨v0, x0.b, x0.s⟩ ⟨v1, x1.b, x1.s⟩ → DR w2 w1.heap.size gb2 dn am ⟨u0, y0.b, y0.s⟩ ⟨u1, y1.b, y1.s⟩ → Below W.heap.size W w1 → Below w1.heap.size w1 w2 → x0.b.length ≤ n → x1.b.length ≤ n → PairN w2 W.heap.size n ga2 gb2) := by
  intro dn lf am x0 x1 y0 y1 hp ga2 gb2 v0 v1 u0 u1 hx hy hb1 hb2 hn0 hn1
  refine ⟨dn, lf, am, _, _, _, _, ⟨hx.still hb2, Dsk.mono hy hb1.size, hp.b0, hp.b1, hp.s0, hp.s1, hp.la, hp.l0, hp.l1, hp.a0, hp.a1, hp.f0, hp.f1, fun k hk hk2 => ?_⟩, hn0, hn1⟩
  have h1 := Dsk.foot_lt hx k hk
  have h2 := Dsk.foot_ge hy k hk2
  omega
set_option maxRecDepth 100000 in
set_option maxHeartbeats 3200000 in
theorem disk_law (a : Option Addr) (cap : Nat) (L : List Wr) (w : World)
    (hel : ∀ i p, L[i]? = some p → (∃ b off, a = some ⟨b, off, none⟩ ∧ b < w.heap.size ∧ ∀ j, j < 6 → w.cell? ⟨b, off + i * 6 + j, none⟩ = p.row[j]?) ∧ WrOk w w.heap.size p) :
    Calls Try.prog 10 #[.slice a L.length cap] w fun r w' => r = .returned (.bool true) ∧ Below w.heap.size w w' := by
  have HEL := hid hel
  clear hel
  by_cases hbig : 60 < L.length
  · have d0 : decide ((60 : Int) < (L.length : Int)) = true := decide_eq_true (by omega)
    generalize L.length = n at *
    go_enter Try.func10, Try.ntmps10
    go_wp2_with fail
    refine (awake_any _).mono ?_
    rintro r w1 ⟨rfl, hb⟩
    go_wp2_with fail
    go_ret
    exact ⟨rfl, hb⟩
  have d0 : decide ((60 : Int) < (L.length : Int)) = false := decide_eq_false (by omega)
  obtain ⟨n, hn⟩ : ∃ n, n = L.length := ⟨_, rfl⟩
  rw [← hn] at d0 hbig ⊢
  have HNL := hid hn
  clear hn
  have hn60 : n ≤ 60 := by omega
  clear hbig
  go_enter Try.func10, Try.ntmps10
  go_wp2_with fail
  refine (xnew_any _).mono ?_
  rintro r w1 ⟨rfl, hd, hb⟩
  have HD1 := hid hd
  have HB1 := hid hb
  clear hd hb
  go_upto_region 6 with fail
  refine gen_world (fun W0 hW0 => ?_)
  have HP0 := hid (show PairN W0 w.heap.size (64 * 0) w.heap.size w1.heap.size by
    rw [hW0]
    have hb : Below w1.heap.size w1 (w1.alloc (.cells (rowR false 0 ⟨.slice none 0 0, [], 0⟩ ⟨.slice none 0 0, [], 0⟩) 74)) := (Below.refl _ _).alloc (Nat.le_refl _) _
    have hlt := Dsk.lt HD1.out
    refine ⟨false, 0, 0, ⟨.slice none 0 0, [], 0⟩, ⟨.slice none 0 0, [], 0⟩, ⟨.slice none 0 0, [], 0⟩, ⟨.slice none 0 0, [], 0⟩, ⟨HD1.out.still hb, ⟨heap_alloc_at _ _ _ rfl, HB1.out.size, own_none _ _, own_none _ _, by simp [Value.ownBlock], by simp [Value.ownBlock], by simp [Value.ownBlock]⟩, rfl, rfl, rfl, rfl, fun _ => rfl, by omega, by omega, by omega, by omega, by simp, by simp, ?_⟩, by simp, by simp⟩
    rintro k (hk | hk | hk) (hk2 | hk2 | hk2)
    · omega
    all_goals simp [Value.ownBlock] at hk hk2)
  have HB0 := hid (show Below w.heap.size w W0 by rw [hW0]; exact HB1.out.alloc HB1.out.size _)
  have hz0 : w.heap.size ≤ W0.heap.size := HB0.out.size
  clear hW0 HD1 HB1
  go_wp2_with fail
  go_loopw [20, 3, 4, 5, 6] (LoopR w n) (fun iv _ _ _ _ _ => n - (intOf iv).toNat)
  case atStart => exact ⟨0, w.heap.size, w.heap.size, w1.heap.size, by omega, rfl, rfl, rfl, HP0.out, Nat.le_refl _, hz0, HB0.out, .inl ⟨rfl, rfl⟩⟩
  case round =>
    obtain ⟨i, B, ga, gb, hi, rfl, rfl, rfl, hP, hwB, hBs, hB, hL⟩ := hrel
    have HP := hid hP
    have HB := hid hB
    have HLF := hid hL
    clear hP hB hL HP0 HB0
    by_cases hlt : i < n
    · have e3 : decide ((i : Int) < (n : Int)) = true := decide_eq_true (by omega)
      obtain ⟨p, hp⟩ : ∃ p, L[i]? = some p := ⟨L[i]'(by rw [← HNL.out]; exact hlt), List.getElem?_eq_getElem _⟩
      obtain ⟨⟨b, off, rfl, hb, hcell⟩, hok⟩ := HEL.out i p hp
      clear hp
      obtain ⟨kd, fi, nn, bv, bs, k0, k1⟩ := p
      obtain ⟨hby, hnn, hml⟩ := hok
      obtain ⟨ba, bc, hbv⟩ := ByB.value hby
      simp only at hby hnn hml hbv
      subst hbv
      obtain ⟨m, hm⟩ : ∃ m, m = bs.length := ⟨_, rfl⟩
      rw [← hm] at hml
      simp only [← hm] at hby hcell
      have HM := hid hm
      have HBY := hid hby
      have hmm : m ≤ 9223372036854775807 := by unfold maxLen at hml; omega
      have x0 : wr.cell? ⟨b, off + i * 6, none⟩ = some (.int .i64 kd) := by rw [HB.out.cell hb]; exact hcell 0 (by omega)
      have x1 : wr.cell? ⟨b, off + i * 6 + 1, none⟩ = some (.int .i64 fi) := by rw [HB.out.cell hb]; exact hcell 1 (by omega)
      have x2 : wr.cell? ⟨b, off + i * 6 + 2, none⟩ = some (.int .i64 nn) := by rw [HB.out.cell hb]; exact hcell 2 (by omega)
      have x3 : wr.cell? ⟨b, off + i * 6 + 3, none⟩ = some (.slice ba m bc) := by rw [HB.out.cell hb]; exact hcell 3 (by omega)
      have x4 : wr.cell? ⟨b, off + i * 6 + 4, none⟩ = some (.int .i64 k0) := by rw [HB.out.cell hb]; exact hcell 4 (by omega)
      have x5 : wr.cell? ⟨b, off + i * 6 + 5, none⟩ = some (.int .i64 k1) := by rw [HB.out.cell hb]; exact hcell 5 (by omega)
      clear hcell hby hm hml
      obtain ⟨K, hK⟩ : ∃ K, (IntKind.u64.wrap kd).tmod 8 = K := ⟨_, rfl⟩
      go_upto_region 11 with fail
      refine gen_world (fun W1 hW1 => ?_)
      have KW := hid (show W1.heap[wr.heap.size]? = some (.cells #[.int .i64 kd, .int .i64 fi, .int .i64 nn, .slice ba m bc, .int .i64 k0, .int .i64 k1] 76) by rw [hW1]; exact (by repeat' (first | (refine heap_alloc_at _ _ _ ?_; (first | rfl | (simp; done) | (simp; omega))) | (refine heap_alloc_past _ _ _ _ ?_))))
      have HBW := hid (show Below wr.heap.size wr W1 by rw [hW1]; (focus ((repeat' (first | (with_reducible exact Below.refl _ _) | (with_reducible assumption) | (with_reducible refine Below.alloc ?_ ?_ _) | (with_reducible refine Below.drew ?_) | (with_reducible refine below_drewN ?_ _) | (with_reducible refine Below.setCell ?_ ?_ _) | (with_reducible refine below_setRow ?_ ?_ _) | go_size)); done)))
      clear hW1 x0 x1 x2 x3 x4 x5
      have c3 : W1.cell? ⟨wr.heap.size, 3, none⟩ = some (.slice ba m bc) := (cell_row (j := 3) KW.out).trans rfl
      have HB1 := hid (HB.out.trans (HBW.out.mono HB.out.size))
      by_cases h64 : 64 < m
      · have d1 : decide ((64 : Int) < (m : Int)) = true := decide_eq_true (by omega)
        go_wp2_with fail
        refine (awake_any _).mono ?_
        rintro r w9 ⟨rfl, hb9⟩
        go_wp2_with fail
        go_ret
        exact ⟨rfl, HB1.out.trans (hb9.mono HB1.out.size)⟩
      have d1 : decide ((64 : Int) < (m : Int)) = false := decide_eq_false (by omega)
      have c0 : W1.cell? ⟨wr.heap.size, 0, none⟩ = some (.int .i64 kd) := (cell_row (j := 0) KW.out).trans rfl
      by_cases h7 : K = 7
      · subst h7
        go_wp2_with fail
        obtain ⟨dn, lf, am, x0, x1, y0, y1, hp, hn0, hn1⟩ := HP.out.still HBW.out
        have HPP := hid hp
        have HN0 := hid hn0
        have HN1 := hid hn1
        have hs1 := HBW.out.size
        clear hp hn0 hn1 c0 c3
        refine (xfork_any ga B dn lf x0 x1 _ HPP.out.x (by have := HN0.out; omega) (by have := HN1.out; omega)).mono ?_
        rintro r w2 ⟨⟨ga2, v0, v1, rfl, hx2⟩, hb2⟩
        have HX2 := hid hx2
        have HB2 := hid hb2
        clear hx2 hb2
        go_wp2_with fail
        refine (rfork_any gb B dn am y0 y1 _ (HPP.out.still HB2.out).y (by have := HN0.out; rw [HPP.out.b0]; omega) (by have := HN1.out; rw [HPP.out.b1]; omega)).mono ?_
        rintro r w3 ⟨⟨gb2, u0, u1, rfl, hy3⟩, hb3⟩
        have HP3 := hid (show PairN w3 W1.heap.size (64 * i) ga2 gb2 from fork_pair dn lf am x0 x1 y0 y1 HPP.out ga2 gb2 v0 v1 u0 u1 HX2.out hy3 HB2.out hb3 HN0.out HN1.out)
        have HB3 := hid (HB2.out.trans (hb3.mono HB2.out.size))
        have HL3 := hid (show PairL w3 W1.heap.size (64 * i) ga gb from (HP.out.still HBW.out).low.stay (HB2.out.trans (hb3.mono HB2.out.size)) (Nat.le_refl _))
        have KW3 := hid (heap_still (HB2.out.trans (hb3.mono HB2.out.size)) KW.out)
        have HBW3 := hid (HB1.out.trans ((HB2.out.trans (hb3.mono HB2.out.size)).mono HB1.out.size))
        clear hy3 hb3
        have HBZ := hid (show W1.heap.size ≤ w3.heap.size from HB3.out.size)
        have hwz : w.heap.size ≤ W1.heap.size := HB1.out.size
        have y0 : w3.cell? ⟨wr.heap.size, 0, none⟩ = some (.int .i64 kd) := (cell_row (j := 0) KW3.out).trans rfl
        have y1 : w3.cell? ⟨wr.heap.size, 1, none⟩ = some (.int .i64 fi) := (cell_row (j := 1) KW3.out).trans rfl
        have y2 : w3.cell? ⟨wr.heap.size, 2, none⟩ = some (.int .i64 nn) := (cell_row (j := 2) KW3.out).trans rfl
        have y3 : w3.cell? ⟨wr.heap.size, 3, none⟩ = some (.slice ba m bc) := (cell_row (j := 3) KW3.out).trans rfl
        have y4 : w3.cell? ⟨wr.heap.size, 4, none⟩ = some (.int .i64 k0) := (cell_row (j := 4) KW3.out).trans rfl
        have y5 : w3.cell? ⟨wr.heap.size, 5, none⟩ = some (.int .i64 k1) := (cell_row (j := 5) KW3.out).trans rfl
        go_wp2_with fail
        clear y0 y1 y2 y3 y4 y5
        refine (call_any W1.heap.size ga2 gb2 (64 * i) kd fi nn k0 k1 _ bs _ HP3.out (by omega) hnn ((HBY.out.below HBW3.out).up (by omega)) (by have := HM.out; omega) (by have := HBZ.out; omega)).mono ?_
        rintro r w5 ⟨rfl, hq, hb5⟩
        have HQ := hid hq
        have HB5 := hid hb5
        clear hq hb5
        go_wp2_with fail
        refine (alike_any W1.heap.size ga2 gb2 _ _ HQ.out (by omega)).mono ?_
        rintro r w6 ⟨rfl, hb6⟩
        have HB6 := hid hb6
        clear hb6
        go_wp2_with fail
        have hs5 := HB5.out.size
        have hs6 := HB6.out.size
        have hz5 := HBZ.out
        have hbb : Below W1.heap.size w3 w6 := HB5.out.trans (HB6.out.mono (by omega))
        refine ⟨⟨i + 1, W1.heap.size, ga2, gb2, by omega, by go_num, rfl, rfl, (HQ.out.still HB6.out).mono (by omega), by omega, by omega, HBW3.out.trans (hbb.mono (by omega)), .inr ⟨ga, gb, rfl, rfl, HL3.out.stay hbb (by omega)⟩⟩, by simp [intOf]; omega⟩
      have d7 : (K == 7) = false := by simpa using h7
      have HPW := hid (HP.out.still HBW.out)
      have HBZ := hid (show B ≤ W1.heap.size by have := HBW.out.size; omega)
      have y0 : W1.cell? ⟨wr.heap.size, 0, none⟩ = some (.int .i64 kd) := (cell_row (j := 0) KW.out).trans rfl
      have y1 : W1.cell? ⟨wr.heap.size, 1, none⟩ = some (.int .i64 fi) := (cell_row (j := 1) KW.out).trans rfl
      have y2 : W1.cell? ⟨wr.heap.size, 2, none⟩ = some (.int .i64 nn) := (cell_row (j := 2) KW.out).trans rfl
      have y3 : W1.cell? ⟨wr.heap.size, 3, none⟩ = some (.slice ba m bc) := (cell_row (j := 3) KW.out).trans rfl
      have y4 : W1.cell? ⟨wr.heap.size, 4, none⟩ = some (.int .i64 k0) := (cell_row (j := 4) KW.out).trans rfl
      have y5 : W1.cell? ⟨wr.heap.size, 5, none⟩ = some (.int .i64 k1) := (cell_row (j := 5) KW.out).trans rfl
      go_wp2_with fail
      clear y0 y1 y2 y3 y4 y5
      refine (call_any B ga gb (64 * i) kd fi nn k0 k1 _ bs _ HPW.out (by omega) hnn ((HBY.out.below HB1.out).up (by omega)) (by have := HM.out; omega) (by have := HBZ.out; omega)).mono ?_
      rintro r w5 ⟨rfl, hq, hb5⟩
      have HQ := hid hq
      have HB5 := hid hb5
      clear hq hb5
      go_wp2_with fail
      refine (alike_any B ga gb _ _ HQ.out (by omega)).mono ?_
      rintro r w6 ⟨rfl, hb6⟩
      have HB6 := hid hb6
      clear hb6
      go_wp2_with fail
      have hs5 := HB5.out.size
      have hs6 := HB6.out.size
      have hz5 := HBZ.out
      have hbb : Below B W1 w6 := HB5.out.trans (HB6.out.mono (by omega))
      refine ⟨⟨i + 1, B, ga, gb, by omega, by go_num, rfl, rfl, (HQ.out.still HB6.out).mono (by omega), by omega, by omega, HB1.out.trans (hbb.mono (by omega)), (HLF.out.stay (HBW.out.mono (by omega)) (Nat.le_refl _)).stay hbb (by omega)⟩, by simp [intOf]; omega⟩
    · have e3 : decide ((i : Int) < (n : Int)) = false := decide_eq_false (by omega)
      rcases HLF.out with ⟨rfl, rfl⟩ | ⟨gl, gw, rfl, rfl, hl⟩
      · go_wp2_with fail
        refine (awake_any _).mono ?_
        rintro r w9 ⟨rfl, hb9⟩
        go_wp2_with fail
        go_ret
        exact ⟨rfl, HB.out.trans (hb9.mono HB.out.size)⟩
      · have HL := hid hl
        clear hl
        go_wp2_with fail
        refine (alike_any 0 gl gw _ _ HL.out.pair (by omega)).mono ?_
        rintro r w8 ⟨rfl, hb8⟩
        have HB8 := hid (HB.out.trans (hb8.mono HB.out.size))
        clear hb8
        go_wp2_with fail
        refine (awake_any _).mono ?_
        rintro r w9 ⟨rfl, hb9⟩
        go_wp2_with fail
        go_ret
        exact ⟨rfl, HB8.out.trans (hb9.mono HB8.out.size)⟩
theorem lawCells70 : Try.prog.cellsOf 70 = 1 := by kernel_rfl
theorem lawCells72 : Try.prog.cellsOf 72 = 2 := by kernel_rfl
theorem lawCells3 : Try.prog.cellsOf 3 = 1 := by kernel_rfl
theorem lawCells76 : Try.prog.cellsOf 76 = 6 := by kernel_rfl
theorem lawFlat72 : flatOf Try.prog 10 72 = some [some .i64, some .i64] := by kernel_rfl
theorem lawFlat5 : flatOf Try.prog 10 5 = some [some .u8] := by kernel_rfl
theorem lawSize5 : (Try.prog.info? 5).map (·.size) = some 1 := by kernel_rfl
theorem wf_u8d {n : Int} (h : (Lit.int .u8 n).wf = true) : 0 ≤ n ∧ n < 256 := by
  simp [Lit.wf, IntKind.min, IntKind.max, IntKind.signed, IntKind.bits] at h
  omega
theorem bytes_rows {w : World} {b off n : Nat} (h : rows w b off 1 n [some .u8]) : ∃ l : List Nat, l.length = n ∧ ∀ (i : Nat) (q : Nat), l[i]? = some q → w.cell? ⟨b, off + i, none⟩ = some (.int .u8 (q : Nat)) := by
  exact list_of (R := fun i (q : Nat) => w.cell? ⟨b, off + i, none⟩ = some (.int .u8 (q : Nat))) n (fun i hi => by
    obtain ⟨cs, hf, hc⟩ := h i hi
    obtain ⟨z, vs, rfl, hw, _⟩ := fits_int hf
    have hz := wf_u8d hw
    refine ⟨z.toNat, ?_⟩
    have h0 := hc 0 _ rfl
    rw [show off + i * 1 + 0 = off + i by omega] at h0
    rw [h0, show ((z.toNat : Nat) : Int) = z by omega])
theorem wf_i64_le {n : Int} (h : (Lit.int .i64 n).wf = true) : n ≤ 9223372036854775807 := by
  simp [Lit.wf, IntKind.min, IntKind.max, IntKind.signed, IntKind.bits] at h
  omega
section
variable {H : Type} {enc : TypeId × Value → H} {w : World} {base : Nat} {spare : Nat → Bool} {held : Bool}
set_option maxRecDepth 100000 in
theorem bytes_cell {fuel : Nat} {v : Value} {x : DataW H × List MemPlace} (hx : DataW.trod enc Try.prog w base spare held fuel 70 [v] = some x) : ∃ l : List Nat, ByB w w.heap.size v l ∧ l.length ≤ maxLen := by
  obtain ⟨a, len, cap, rfl, hl, hn, hr⟩ := open_cell_rows Try.underlying70 lawFlat5 lawSize5 (by decide) hx
  by_cases h0 : len = 0
  · subst h0
    cases a with
    | none => exact ⟨[], .inl ⟨by rw [(hn rfl).2], rfl⟩, by simp⟩
    | some ad => exact ⟨[], .inr ⟨ad, cap, rfl, fun j u hu => by simp [u8s] at hu⟩, by simp⟩
  · obtain ⟨b, off, rfl, hb, hrows⟩ := hr (by omega)
    obtain ⟨S, h1, h3⟩ := bytes_rows hrows
    subst h1
    refine ⟨S, .inr ⟨_, cap, rfl, fun j u hu => ?_⟩, hl⟩
    have hj : j < S.length := by have := (List.getElem?_eq_some_iff.1 hu).1; simpa [u8s] using this
    rw [Go.WideShapes.add_plain]
    refine ⟨?_, hb⟩
    rw [h3 j _ (List.getElem?_eq_getElem hj)]
    simp [u8s, hj] at hu
    rw [hu]
set_option maxRecDepth 100000 in
theorem wr_cells {fuel : Nat} {cs : List Value} {x : DataW H × List MemPlace} (hl : cs.length = 6) (hx : DataW.trod enc Try.prog w base spare held fuel 76 cs = some x) :
    ∃ p : Wr, cs = p.row ∧ WrOk w w.heap.size p := by
  obtain ⟨xs, m, _, _, _, hxl, hf⟩ := DataW.trod_struct Try.underlying76 hx
  match cs, hl with
  | [c0, c1, c2, c3, c4, c5], _ =>
    have h0 := hf 0 _ rfl
    rw [List.getElem?_eq_getElem (by rw [hxl]; decide)] at h0
    have h1 := hf 1 _ rfl
    rw [List.getElem?_eq_getElem (by rw [hxl]; decide)] at h1
    have h2 := hf 2 _ rfl
    rw [List.getElem?_eq_getElem (by rw [hxl]; decide)] at h2
    have h3 := hf 3 _ rfl
    rw [List.getElem?_eq_getElem (by rw [hxl]; decide)] at h3
    have h4 := hf 4 _ rfl
    rw [List.getElem?_eq_getElem (by rw [hxl]; decide)] at h4
    obtain ⟨p0, _, e0, _, _⟩ := fits_int (show fitsW (some .i64 :: []) _ from trod_flat 10 3 _ _ _ _ lawFlat3 (by simp [lawCells3]) h0)
    simp [lawCells3] at e0
    obtain ⟨rfl, _⟩ := e0
    obtain ⟨p1, _, e1, _, _⟩ := fits_int (show fitsW (some .i64 :: []) _ from trod_flat 10 3 _ _ _ _ lawFlat3 (by simp [lawCells3]) h1)
    simp [lawCells3] at e1
    obtain ⟨rfl, _⟩ := e1
    obtain ⟨p2, _, e2, hw2, _⟩ := fits_int (show fitsW (some .i64 :: []) _ from trod_flat 10 3 _ _ _ _ lawFlat3 (by simp [lawCells3]) h2)
    simp [lawCells3] at e2
    obtain ⟨rfl, _⟩ := e2
    obtain ⟨l, h5, h6⟩ := bytes_cell (v := c3) (by simpa [lawCells3, lawCells70] using h3)
    have hk : fitsW [some .i64, some .i64] [c4, c5] := by simpa [lawCells3, lawCells70, lawCells72] using trod_flat 10 72 _ _ _ _ lawFlat72 (by simp [lawCells72]) h4
    obtain ⟨p4, vs, e4, _, hk2⟩ := fits_int hk
    obtain ⟨p5, vs2, e5, _, _⟩ := fits_int hk2
    injection e4 with e4 e6
    subst e4 e6
    injection e5 with e5 e7
    subst e5
    exact ⟨⟨p0, p1, p2, c3, l, p4, p5⟩, rfl, h5, wf_i64_le hw2, h6⟩
set_option maxRecDepth 100000 in
theorem open_script {r : Reach} {b0 : Nat} {v : Value} {d : DataW H} {p : List MemPlace} (hv : Value.okWide Try.prog w r b0 66 v) (h : DataW.Trod enc Try.prog w base spare held 66 v d p) :
    ∃ (a : Option Addr) (cap : Nat) (L : List Wr), v = .slice a L.length cap ∧ ∀ i p, L[i]? = some p → (∃ b off, a = some ⟨b, off, none⟩ ∧ b < w.heap.size ∧ ∀ j, j < 6 → w.cell? ⟨b, off + i * 6 + j, none⟩ = p.row[j]?) ∧ WrOk w w.heap.size p := by
  obtain ⟨a0, len, cap, rfl⟩ := Go.WideShapes.okWide_slice Try.underlying66 hv
  obtain ⟨fuel, hx⟩ := h
  rcases Go.Deep.open_slice Try.underlying66 hx with ⟨h0, _⟩ | ⟨a, len', cap', m, n, D, Pl, h1, hb, hl, hm, hmm, _, hall⟩
  · simp [Value.cells] at h0
    obtain ⟨rfl, rfl, rfl⟩ := h0
    exact ⟨none, 0, [], rfl, fun i p h => by simp at h⟩
  · simp [Value.cells] at h1
    obtain ⟨rfl, rfl, rfl⟩ := h1
    by_cases h0 : len = 0
    · subst h0
      exact ⟨some a, cap, [], rfl, fun i p h => by simp at h⟩
    have hle : len ≤ m := by rw [hmm]; split <;> omega
    rw [lawCells76] at hall
    obtain ⟨E, h1, h2⟩ := list_of (R := fun i (e : Wr) => WrOk w w.heap.size e ∧ ∀ j, j < 6 → w.cell? ((a.add (i * 6)).add j) = e.row[j]?) len (fun i hi => by
      obtain ⟨cs, hc, ht⟩ := hall i (by omega)
      obtain ⟨_, hlen, hcell⟩ := World.cells?_some hc
      obtain ⟨e, rfl, h5⟩ := wr_cells hlen ht
      exact ⟨e, h5, hcell⟩)
    subst h1
    obtain ⟨b, off, spot⟩ := a
    have hpos : 0 < E.length := by omega
    have hspot : spot = none := by
      have h0 := (h2 0 _ (List.getElem?_eq_getElem hpos)).2 0 (by omega)
      exact (by simpa [Addr.add] using World.cell?_spot (v := .int .i64 (E[0]).kd) (h0.trans rfl))
    subst hspot
    have hr : ∀ i p, E[i]? = some p → ∀ j, j < 6 → w.cell? ⟨b, off + i * 6 + j, none⟩ = p.row[j]? := fun i e he j hj => by
      rw [← (h2 i e he).2 j hj, ← Go.WideShapes.add_plain, ← Go.WideShapes.add_plain]
    have hb : b < w.heap.size := by
      have h0 := hr 0 (E[0]) (List.getElem?_eq_getElem hpos) 0 (by omega)
      exact cell_lt (h0.trans rfl)
    exact ⟨_, cap, E, rfl, fun i p hp => ⟨⟨b, off, rfl, hb, hr i p hp⟩, (h2 i p hp).1⟩⟩
end
set_option maxRecDepth 100000 in
theorem tileDisk_lifted (os : Os) (started : os.Started) (H : Type) (enc : TypeId × Value → H) :
    ReturnsInHanded {} Try.checked os 10 .any (Rows.tileDiskSpec.pre6 enc Try.prog Try.f10 Rows.tileDiskRow.domain false) (Rows.tileDiskSpec.post enc Try.prog Try.f10 false true false false) := by
  refine law_lifted (C := Try.checked) (tb := 4) lawOwn started (by kernel_rfl) Try.func10 rfl ?_ (show Try.f10.resultTypes = #[4] by kernel_rfl) Try.underlying4 lawLaid ?_
    (ChangeSpec.witness6 (enc := enc) (C := Try.checked) false ⟨#[], #[.slice none 0 0], []⟩ 8 (by kernel_rfl) (by kernel_rfl) (by kernel_rfl) (by kernel_rfl)) ?_
  · intro ds hds
    match ds, hds with
    | [d1], _ => exact ⟨rfl, rfl, rfl⟩
  · rw [Try.params10]
    intro t ht
    simp at ht
    rcases ht with rfl
    all_goals exact ⟨by kernel_rfl, of_decide_eq_true (by kernel_rfl)⟩
  · intro W base args ds p hval hA hlt _
    change DataW.TrodAll enc Try.prog W 0 (fun _ => true) true Try.f10.params.toList args.toList ds p at hA
    change ∀ (j : Nat) t v, Try.f10.params[j]? = some t → args[j]? = some v → Value.okWide Try.prog W .any base t v at hval
    rw [Try.params10] at hA hval
    obtain ⟨v0, vs0, d0, ds0, p0, q0, hargs, rfl, rfl, h0, r0⟩ := trodAll_cons hA
    obtain ⟨rfl, rfl, rfl⟩ := trodAll_nil r0
    obtain rfl : args = #[v0] := by cases args; simp_all
    obtain ⟨a, cap, L, rfl, hL⟩ := open_script (hval 0 66 v0 rfl rfl) h0
    exact disk_law a cap L W hL
/-- TileDisk, whatever the input. -/
theorem tileDisk_holds : Rows.TileDiskSaid :=
  OpenClaim.holds_of_wide 10 Try.f10 rfl rfl rfl rfl rfl rfl rfl ⟨rfl, rfl, rfl, rfl, rfl⟩ rfl rfl rfl rfl rfl (by kernel_rfl) Try.func10 (by kernel_rfl)
    (of_decide_eq_true (by kernel_rfl)) (by unfold Func.isWrapper; rw [if_neg (of_decide_eq_false (by kernel_rfl))]; exact ⟨rfl, rfl⟩)
    (fun os started H enc _ => tileDisk_lifted os started H enc)
#print axioms tileDisk_holds
end Go.Proofs.Yteanlcefdoigcaa
