/- The program's Decode. (Printed by wip/gen_decy.py.) -/
import Derived.Test.YteanlcefdoigcaaSum
namespace Go.Proofs.Yteanlcefdoigcaa
open Go.RowKit

theorem size49 : (Try.prog.info? 49).map (·.size) = some 5 := by kernel_rfl
/-- the state of a reader before these bytes -/
def stL (l : List Nat) : St := ⟨fun i => l.getD i 0, l.length, false⟩
/-- a tile read by the program -/
def tileX (s : St) : Tl × St :=
  let r0 := nextS false s
  let r1 := nextS false r0.2
  let r2 := nextS false r1.2
  let r3 := nextS false r2.2
  let q := pointsX r3.2
  (⟨⟨r0.1, r1.1, r2.1, r3.1⟩, q.1⟩, q.2)
/-- the last four bytes are the checksum of the others -/
def SumOk (l : List Nat) (n : Nat) : Prop := (be (fun i => l.getD (n + i) 0) 4).toNat = crcV (fun i => l.getD i 0) n
instance (l : List Nat) (n : Nat) : Decidable (SumOk l n) := inferInstanceAs (Decidable (_ = _))
/-- what Decode accepts -/
def OkX (l : List Nat) (n : Nat) : Prop := SumOk l n ∧ (tileX (stL (l.take n))).2.bad = false ∧ (tileX (stL (l.take n))).2.m = 0 ∧ TlOk (tileX (stL (l.take n))).1
def refusedT : Ending := .returned (.tuple #[.agg #[.int .i64 0, .int .i64 0, .int .i64 0, .int .i64 0, .slice none 0 0], .int .i64 4])
/-- a tile returned -/
def GotT (t : Tl) (r : Ending) (w' : World) : Prop := ∃ v, r = .returned (.tuple #[.agg #[.int .i64 t.key.L, .int .i64 t.key.x, .int .i64 t.key.y, .int .i64 t.key.z, v], .int .i64 0]) ∧ PtsV w' v t.pts
theorem rd_start {w : World} {b rb off n cap : Nat} {ty : TypeId} {l : List Nat} (hb : bytesAt w b off l.length (fun i => l.getD i 0)) (hl : ∀ x ∈ l, x < 256) (hn : n ≤ l.length) (hnc : n ≤ cap) (hc : cap ≤ 9223372036854775807) (hbw : b < w.heap.size) (hr : w.heap[rb]? = some (.cells #[.slice (some ⟨b, off, none⟩) n cap, .bool false] ty)) (hne : rb ≠ b) :
    RdAt w rb ty b (stL (l.take n)) := by
  have h1 : (l.take n).length = n := by rw [List.length_take]; omega
  refine ⟨off, cap, by unfold stL; simp only [h1]; exact hr, by unfold stL; simp only [h1]; exact hnc, hc, ?_, hne, fun i => getD_byte (fun x hx => hl x (List.mem_of_mem_take hx)) i, hbw⟩
  intro i hi
  have hi' : i < n := by unfold stL at hi; simp only [h1] at hi; exact hi
  have h2 := hb i (by omega)
  rw [h2]
  show some (Value.int .u8 ((l.getD i 0 : Nat) : Int)) = some (Value.int .u8 (((l.take n).getD i 0 : Nat) : Int))
  rw [List.getD_eq_getElem?_getD, List.getD_eq_getElem?_getD, List.getElem?_take_of_lt hi']
set_option maxRecDepth 100000 in
set_option maxHeartbeats 6400000 in
theorem xDecode_short (p0 : Option Addr) (n cap : Nat) (w : World) (hn : n < 4) :
    Calls Try.prog 44 #[.slice p0 n cap] w fun r w' => r = refusedT ∧ Below w.heap.size w w' := by
  unfold refusedT
  have HC := hid (fun W => (show Calls Try.prog 83 #[.slice p0 n cap] W fun r w' => r = .returned (.tuple #[.slice none 0 0, .bool false]) ∧ W = w' by
    have d : decide ((n : Int) - 4 < 0) = true := decide_eq_true (by omega)
    go_enter Try.func83, Try.ntmps83
    go_wp2_with fail
    go_ret2
    exact ⟨rfl, rfl⟩))
  go_enter Try.func44, Try.ntmps44
  go_wp2_with fail
  refine (HC.out _).mono ?_
  rintro r w1 ⟨rfl, hw⟩
  have HT1 := hid (show w1.heap[w.heap.size]? = some (.cells #[.int .i64 0, .int .i64 0, .int .i64 0, .int .i64 0, .slice none 0 0] 49) by rw [← hw]; exact heap_alloc_at _ _ _ rfl)
  have HB1 := hid (show Below w.heap.size w w1 by rw [← hw]; exact (by repeat' (first | (with_reducible exact Below.refl _ _) | (with_reducible assumption) | (with_reducible refine Below.alloc ?_ ?_ _) | (with_reducible refine Below.drew ?_) | (with_reducible refine below_drewN ?_ _) | go_size)))
  clear hw
  go_wp2_with (refine wpList_store_at rfl 49 (.tmp 2) (.tmp 15) rfl rfl rfl HT1.out size49 rfl rfl rfl ?_)
  exact bodyPost_ret (results_at2 rfl rfl (setRow_heap _ _ _ _ _ _ HT1.out) Try.underlying49 rfl size49 rfl) rfl ⟨rfl, below_setRow HB1.out (Nat.le_refl _) _⟩
set_option maxRecDepth 100000 in
set_option maxHeartbeats 6400000 in
theorem xDecode_long (b off n cap : Nat) (l : List Nat) (w : World) (hbw : b < w.heap.size) (hl : ∀ x ∈ l, x < 256) (hn : l.length = n + 4) (hnc : n + 4 ≤ cap) (hc : cap ≤ 9223372036854775807) (hb : bytesAt w b off l.length (fun i => l.getD i 0)) :
    Calls Try.prog 44 #[.slice (some ⟨b, off, none⟩) (n + 4 : Nat) cap] w fun r w' => ((OkX l n ∧ GotT (tileX (stL (l.take n))).1 r w') ∨ (¬ OkX l n ∧ r = refusedT)) ∧ Below w.heap.size w w' := by
  have HLB := hid hl
  have HBY := hid hb
  have HN := hid hn
  have HCK := hid (fun W (h : Below w.heap.size w W) => checked_any b off n cap (fun i => l.getD i 0) W hnc hc (getD_byte hl) (fun i hi => by rw [h.cell (p := ⟨b, off + i, none⟩) hbw]; exact hb i (by omega)))
  have HOK := hid (show OkX l n ↔ SumOk l n ∧ (tileX (stL (l.take n))).2.bad = false ∧ (tileX (stL (l.take n))).2.m = 0 ∧ TlOk (tileX (stL (l.take n))).1 from Iff.rfl)
  clear hl hb hn
  by_cases hs : SumOk l n
  · have HS := hid hs
    have HSD := hid (show decide ((be (fun i => l.getD (n + i) 0) 4).toNat = crcV (fun i => l.getD i 0) n) = true from decide_eq_true hs)
    clear hs
    rcases e0 : nextS false (stL (l.take n)) with ⟨v0, t1⟩
    rcases e1 : nextS false t1 with ⟨v1, t2⟩
    rcases e2 : nextS false t2 with ⟨v2, t3⟩
    rcases e3 : nextS false t3 with ⟨v3, t4⟩
    rcases e4 : pointsX t4 with ⟨P, t5⟩
    have HTX := hid (show tileX (stL (l.take n)) = (⟨⟨v0, v1, v2, v3⟩, P⟩, t5) by unfold tileX; simp only [e0, e1, e2, e3, e4])
    rw [HTX.out] at HOK
    rw [HTX.out]
    have E0 := hid e0
    have E1 := hid e1
    have E2 := hid e2
    have E3 := hid e3
    have E4 := hid e4
    clear e0 e1 e2 e3 e4
    obtain ⟨OK, hok⟩ : ∃ OK : Prop, OK = OkX l n := ⟨_, rfl⟩
    rw [← hok] at HOK ⊢
    clear hok
    simp only at HOK ⊢
    obtain ⟨m5, hm5⟩ : ∃ m5, m5 = t5.m := ⟨_, rfl⟩
    rw [← hm5] at HOK
    have HM5 := hid hm5
    clear hm5
    go_enter Try.func44, Try.ntmps44
    go_wp2_with fail
    refine (HCK.out _ (by repeat' (first | (with_reducible exact Below.refl _ _) | (with_reducible assumption) | (with_reducible refine Below.alloc ?_ ?_ _) | (with_reducible refine Below.drew ?_) | (with_reducible refine below_drewN ?_ _) | go_size))).mono ?_
    rintro r w1 ⟨rfl, hb1⟩
    rw [HSD.out]
    have HT1 := hid (heap_still hb1 (heap_alloc_at w (.cells #[.int .i64 0, .int .i64 0, .int .i64 0, .int .i64 0, .slice none 0 0] 49) _ rfl))
    have HB1 := hid ((show Below w.heap.size w _ from (by repeat' (first | (with_reducible exact Below.refl _ _) | (with_reducible assumption) | (with_reducible refine Below.alloc ?_ ?_ _) | (with_reducible refine Below.drew ?_) | (with_reducible refine below_drewN ?_ _) | go_size))).trans (hb1.mono (by simp)))
    have hz1 := hb1.size
    simp at hz1
    clear hb1
    go_wp2_with fail
    obtain ⟨rb, hrb⟩ : ∃ rb, rb = w1.heap.size := ⟨_, rfl⟩
    rw [← hrb]
    have T1 := hid (show ((w1.alloc (.cells #[.slice (some ⟨b, off, none⟩) n cap, .bool false] 118)).alloc (.cells #[.int .i64 0, .int .i64 0, .int .i64 0, .int .i64 0, .slice none 0 0] 49)).heap[rb + 1]? = some (.cells #[.int .i64 0, .int .i64 0, .int .i64 0, .int .i64 0, .slice none 0 0] 49) from heap_alloc_at _ _ _ (by simp [hrb]))
    have R1 := hid (rd_start (n := n) (cap := cap) (rb := rb) (l := l) (b := b) (w := (w1.alloc (.cells #[.slice (some ⟨b, off, none⟩) n cap, .bool false] 118)).alloc (.cells #[.int .i64 0, .int .i64 0, .int .i64 0, .int .i64 0, .slice none 0 0] 49))
      (fun i hi => by
        have h1 : Below w.heap.size w ((w1.alloc (.cells #[.slice (some ⟨b, off, none⟩) n cap, .bool false] 118)).alloc (.cells #[.int .i64 0, .int .i64 0, .int .i64 0, .int .i64 0, .slice none 0 0] 49)) := (HB1.out.alloc (by omega) _).alloc (by simp; omega) _
        rw [h1.cell (p := ⟨b, off + i, none⟩) hbw]; exact HBY.out i hi) HLB.out (by rw [HN.out]; omega) (by omega) hc (by simp; omega) (heap_alloc_past _ _ _ _ (heap_alloc_at _ _ _ hrb)) (by omega))
    have G1 := hid (heap_alloc_past (w1.alloc (.cells #[.slice (some ⟨b, off, none⟩) n cap, .bool false] 118)) (.cells #[.int .i64 0, .int .i64 0, .int .i64 0, .int .i64 0, .slice none 0 0] 49) _ _ (heap_alloc_past w1 (.cells #[.slice (some ⟨b, off, none⟩) n cap, .bool false] 118) _ _ HT1.out))
    have O1 := hid (show Below w.heap.size w ((w1.alloc (.cells #[.slice (some ⟨b, off, none⟩) n cap, .bool false] 118)).alloc (.cells #[.int .i64 0, .int .i64 0, .int .i64 0, .int .i64 0, .slice none 0 0] 49)) from (HB1.out.alloc (by omega) _).alloc (by simp; omega) _)
    have hzz : ((w1.alloc (.cells #[.slice (some ⟨b, off, none⟩) n cap, .bool false] 118)).alloc (.cells #[.int .i64 0, .int .i64 0, .int .i64 0, .int .i64 0, .slice none 0 0] 49)).heap.size = rb + 2 := by simp [hrb]
    have hrw : w.heap.size < rb := by omega
    clear hrb HT1 HB1
    generalize (w1.alloc (.cells #[.slice (some ⟨b, off, none⟩) n cap, .bool false] 118)).alloc (.cells #[.int .i64 0, .int .i64 0, .int .i64 0, .int .i64 0, .slice none 0 0] 49) = W1 at *
    refine (number_at _ E0.out R1.out).mono ?_
    rintro r w2 ⟨rfl, hrd, hol⟩
    have R2 := hid hrd
    have T2 := hid (show w2.heap[rb + 1]? = some (.cells #[.int .i64 0, .int .i64 0, .int .i64 0, .int .i64 0, .slice none 0 0] 49) from hol.heap (by omega) T1.out)
    have G2 := hid (show w2.heap[w.heap.size]? = some (.cells #[.int .i64 0, .int .i64 0, .int .i64 0, .int .i64 0, .slice none 0 0] 49) from hol.heap (by omega) G1.out)
    have O2 := hid (O1.out.trans (hol.below (B := w.heap.size) (by omega) (by omega)))
    have hz2 : rb + 1 < w2.heap.size := (Array.getElem?_eq_some_iff.1 T2.out).1
    have c2 : w2.cell? ⟨rb + 1, 0, none⟩ = some (.int .i64 0) := (cell_row (j := 0) T2.out).trans rfl
    have f2 : w2.frozen? ⟨rb + 1, 0, none⟩ = false := by have hh := T2.out; simp [World.frozen?, hh]
    clear hrd hol
    go_wp2_with fail
    refine (number_at _ E1.out (R2.out.set (by omega) (by have := R2.out.apart; omega) _)).mono ?_
    rintro r w3 ⟨rfl, hrd, hol⟩
    have R3 := hid hrd
    have T3 := hid (show w3.heap[rb + 1]? = some (.cells #[.int .i64 v0, .int .i64 0, .int .i64 0, .int .i64 0, .slice none 0 0] 49) from hol.heap (by omega) (heap_setCell T2.out _))
    have G3 := hid (show w3.heap[w.heap.size]? = some (.cells #[.int .i64 0, .int .i64 0, .int .i64 0, .int .i64 0, .slice none 0 0] 49) from hol.heap (by omega) (heap_set_other G2.out (by omega) _))
    have O3 := hid ((O2.out.setCell (p := ⟨rb + 1, 0, none⟩) (by show w.heap.size ≤ rb + 1; omega) (.int .i64 v0)).trans (hol.below (B := w.heap.size) (by omega) (by simp; omega)))
    have hz3 : rb + 1 < w3.heap.size := (Array.getElem?_eq_some_iff.1 T3.out).1
    have c3 : w3.cell? ⟨rb + 1, 1, none⟩ = some (.int .i64 0) := (cell_row (j := 1) T3.out).trans rfl
    have f3 : w3.frozen? ⟨rb + 1, 1, none⟩ = false := by have hh := T3.out; simp [World.frozen?, hh]
    clear hrd hol
    go_wp2_with fail
    refine (number_at _ E2.out (R3.out.set (by omega) (by have := R3.out.apart; omega) _)).mono ?_
    rintro r w4 ⟨rfl, hrd, hol⟩
    have R4 := hid hrd
    have T4 := hid (show w4.heap[rb + 1]? = some (.cells #[.int .i64 v0, .int .i64 v1, .int .i64 0, .int .i64 0, .slice none 0 0] 49) from hol.heap (by omega) (heap_setCell T3.out _))
    have G4 := hid (show w4.heap[w.heap.size]? = some (.cells #[.int .i64 0, .int .i64 0, .int .i64 0, .int .i64 0, .slice none 0 0] 49) from hol.heap (by omega) (heap_set_other G3.out (by omega) _))
    have O4 := hid ((O3.out.setCell (p := ⟨rb + 1, 1, none⟩) (by show w.heap.size ≤ rb + 1; omega) (.int .i64 v1)).trans (hol.below (B := w.heap.size) (by omega) (by simp; omega)))
    have hz4 : rb + 1 < w4.heap.size := (Array.getElem?_eq_some_iff.1 T4.out).1
    have c4 : w4.cell? ⟨rb + 1, 2, none⟩ = some (.int .i64 0) := (cell_row (j := 2) T4.out).trans rfl
    have f4 : w4.frozen? ⟨rb + 1, 2, none⟩ = false := by have hh := T4.out; simp [World.frozen?, hh]
    clear hrd hol
    go_wp2_with fail
    refine (number_at _ E3.out (R4.out.set (by omega) (by have := R4.out.apart; omega) _)).mono ?_
    rintro r w5 ⟨rfl, hrd, hol⟩
    have R5 := hid hrd
    have T5 := hid (show w5.heap[rb + 1]? = some (.cells #[.int .i64 v0, .int .i64 v1, .int .i64 v2, .int .i64 0, .slice none 0 0] 49) from hol.heap (by omega) (heap_setCell T4.out _))
    have G5 := hid (show w5.heap[w.heap.size]? = some (.cells #[.int .i64 0, .int .i64 0, .int .i64 0, .int .i64 0, .slice none 0 0] 49) from hol.heap (by omega) (heap_set_other G4.out (by omega) _))
    have O5 := hid ((O4.out.setCell (p := ⟨rb + 1, 2, none⟩) (by show w.heap.size ≤ rb + 1; omega) (.int .i64 v2)).trans (hol.below (B := w.heap.size) (by omega) (by simp; omega)))
    have hz5 : rb + 1 < w5.heap.size := (Array.getElem?_eq_some_iff.1 T5.out).1
    have c5 : w5.cell? ⟨rb + 1, 3, none⟩ = some (.int .i64 0) := (cell_row (j := 3) T5.out).trans rfl
    have f5 : w5.frozen? ⟨rb + 1, 3, none⟩ = false := by have hh := T5.out; simp [World.frozen?, hh]
    clear hrd hol
    go_wp2_with fail
    refine (points_any rb b t4 _ (R5.out.set (by omega) (by have := R5.out.apart; omega) _)).mono ?_
    rw [E4.out]
    rintro r w6 ⟨⟨v, rfl, hown, hpl⟩, hrd, hol⟩
    obtain ⟨oa, oc, rfl⟩ := hown.slice
    simp only at hown hpl
    obtain ⟨pn, hpn⟩ : ∃ pn, pn = P.length := ⟨_, rfl⟩
    rw [← hpn] at hown ⊢
    clear hpn
    have HPL := hid hpl
    have R6 := hid hrd
    have T6 := hid (show w6.heap[rb + 1]? = some (.cells #[.int .i64 v0, .int .i64 v1, .int .i64 v2, .int .i64 v3, .slice none 0 0] 49) from hol.heap (by omega) (heap_setCell T5.out _))
    have G6 := hid (show w6.heap[w.heap.size]? = some (.cells #[.int .i64 0, .int .i64 0, .int .i64 0, .int .i64 0, .slice none 0 0] 49) from hol.heap (by omega) (heap_set_other G5.out (by omega) _))
    have O6 := hid ((O5.out.setCell (p := ⟨rb + 1, 3, none⟩) (by show w.heap.size ≤ rb + 1; omega) (.int .i64 v3)).trans (hol.below (B := w.heap.size) (by omega) (by simp; omega)))
    have hz6 : rb + 1 < w6.heap.size := (Array.getElem?_eq_some_iff.1 T6.out).1
    have c6 : w6.cell? ⟨rb + 1, 4, none⟩ = some (.slice none 0 0) := (cell_row (j := 4) T6.out).trans rfl
    have f6 : w6.frozen? ⟨rb + 1, 4, none⟩ = false := by have hh := T6.out; simp [World.frozen?, hh]
    have HOW := hid (OwnR.mono hown (by simp; omega) : OwnP w6 (rb + 2) (.slice oa pn oc) P)
    have HOX := hid (OwnR.heap (W' := (w6.setCell ⟨rb + 1, 4, none⟩ (.slice oa pn oc))) HOW.out (fun g x hx hg => by
      rw [Below.heap_setCell w6 ⟨rb + 1, 4, none⟩ _ g (fun e => by
        have h1 : g = rb + 1 := e
        omega)]
      exact hx) : OwnP (w6.setCell ⟨rb + 1, 4, none⟩ (.slice oa pn oc)) (rb + 2) (.slice oa pn oc) P)
    have RX := hid (show RdAt (w6.setCell ⟨rb + 1, 4, none⟩ (.slice oa pn oc)) rb 118 b t5 from R6.out.set (by omega) (by have := R6.out.apart; omega) _)
    have TX := hid (show (w6.setCell ⟨rb + 1, 4, none⟩ (.slice oa pn oc)).heap[rb + 1]? = some (.cells #[.int .i64 v0, .int .i64 v1, .int .i64 v2, .int .i64 v3, .slice oa pn oc] 49) from heap_setCell T6.out _)
    have GX := hid (show (w6.setCell ⟨rb + 1, 4, none⟩ (.slice oa pn oc)).heap[w.heap.size]? = some (.cells #[.int .i64 0, .int .i64 0, .int .i64 0, .int .i64 0, .slice none 0 0] 49) from heap_set_other G6.out (by omega) _)
    have OX := hid (show Below w.heap.size w (w6.setCell ⟨rb + 1, 4, none⟩ (.slice oa pn oc)) from O6.out.setCell (p := ⟨rb + 1, 4, none⟩) (by show w.heap.size ≤ rb + 1; omega) _)
    have x1 := RX.out.flag.1
    obtain ⟨so, sc, x0⟩ : ∃ so sc, (w6.setCell ⟨rb + 1, 4, none⟩ (.slice oa pn oc)).cell? ⟨rb, 0, none⟩ = some (.slice (some ⟨b, so, none⟩) m5 sc) := by
      obtain ⟨o, c, hr, _⟩ := RX.out
      exact ⟨o, c, by rw [cell_row hr, HM5.out]; rfl⟩
    clear hrd hol hown hpl c2 c3 c4 c5 f2 f3 f4 f5
    cases hbad : t5.bad
    · rw [hbad] at x1
      have HBD := hid hbad
      by_cases hm : m5 = 0
      · subst hm
        have y0 : (w6.setCell ⟨rb + 1, 4, none⟩ (.slice oa pn oc)).cell? ⟨rb + 1, 0, none⟩ = some (.int .i64 v0) := (cell_row (j := 0) TX.out).trans rfl
        have y1 : (w6.setCell ⟨rb + 1, 4, none⟩ (.slice oa pn oc)).cell? ⟨rb + 1, 1, none⟩ = some (.int .i64 v1) := (cell_row (j := 1) TX.out).trans rfl
        have y2 : (w6.setCell ⟨rb + 1, 4, none⟩ (.slice oa pn oc)).cell? ⟨rb + 1, 2, none⟩ = some (.int .i64 v2) := (cell_row (j := 2) TX.out).trans rfl
        have y3 : (w6.setCell ⟨rb + 1, 4, none⟩ (.slice oa pn oc)).cell? ⟨rb + 1, 3, none⟩ = some (.int .i64 v3) := (cell_row (j := 3) TX.out).trans rfl
        have y4 : (w6.setCell ⟨rb + 1, 4, none⟩ (.slice oa pn oc)).cell? ⟨rb + 1, 4, none⟩ = some (.slice oa pn oc) := (cell_row (j := 4) TX.out).trans rfl
        go_wp2_with fail
        clear y0 y1 y2 y3 y4
        refine (xtile_any ⟨v0, v1, v2, v3⟩ (.slice oa pn oc) P _ (OwnP.ptsV HOX.out) (by have := HPL.out; unfold maxLen; omega)).mono ?_
        rintro r w8 ⟨rfl, hb8⟩
        have G8 := hid (heap_still hb8 GX.out)
        have T8 := hid (heap_still hb8 TX.out)
        have O8 := hid (OX.out.trans (hb8.mono OX.out.size))
        have HO8 := hid (OwnR.grow HOX.out hb8 : OwnP w8 (rb + 2) (.slice oa pn oc) P)
        clear hb8
        cases hdt : decide (TlOk ⟨⟨v0, v1, v2, v3⟩, P⟩)
        · have HNO := hid (show ¬ OK from fun h => of_decide_eq_false hdt (HOK.out.1 h).2.2.2)
          clear hdt hbad
          go_wp2_with (refine wpList_store_at rfl 49 (.tmp 2) (.tmp 55) rfl rfl rfl G8.out size49 rfl rfl rfl ?_)
          exact bodyPost_ret (results_at2 rfl rfl (setRow_heap _ _ _ _ _ _ G8.out) Try.underlying49 rfl size49 rfl) rfl ⟨Or.inr ⟨HNO.out, rfl⟩, below_setRow O8.out (Nat.le_refl _) _⟩
        · have HYES := hid (show OK from HOK.out.2 ⟨HS.out, hbad, by first | rfl | trivial, of_decide_eq_true hdt⟩)
          clear hdt hbad
          have z0 : w8.cell? ⟨rb + 1, 0, none⟩ = some (.int .i64 v0) := (cell_row (j := 0) T8.out).trans rfl
          have z1 : w8.cell? ⟨rb + 1, 1, none⟩ = some (.int .i64 v1) := (cell_row (j := 1) T8.out).trans rfl
          have z2 : w8.cell? ⟨rb + 1, 2, none⟩ = some (.int .i64 v2) := (cell_row (j := 2) T8.out).trans rfl
          have z3 : w8.cell? ⟨rb + 1, 3, none⟩ = some (.int .i64 v3) := (cell_row (j := 3) T8.out).trans rfl
          have z4 : w8.cell? ⟨rb + 1, 4, none⟩ = some (.slice oa pn oc) := (cell_row (j := 4) T8.out).trans rfl
          go_wp2_with (refine wpList_store_at rfl 49 (.tmp 2) (.tmp 56) rfl rfl rfl G8.out size49 rfl rfl rfl ?_)
          refine bodyPost_ret (results_at2 rfl rfl (setRow_heap _ _ _ _ _ _ G8.out) Try.underlying49 rfl size49 rfl) rfl ⟨Or.inl ⟨HYES.out, .slice oa pn oc, rfl, OwnP.ptsV (base := rb + 2) (OwnR.heap HO8.out (fun g x hx hg => ?_))⟩, below_setRow O8.out (Nat.le_refl _) _⟩
          rw [setRow_other w8 w.heap.size g _ (by omega)]
          exact hx
      · have d1 : decide ((0 : Int) < (m5 : Int)) = true := decide_eq_true (by omega)
        clear hbad
        have HNO := hid (show ¬ OK from fun h => by have h2 := HOK.out.1 h; exact hm h2.2.2.1)
        go_wp2_with (refine wpList_store_at rfl 49 (.tmp 2) (.tmp 55) rfl rfl rfl GX.out size49 rfl rfl rfl ?_)
        exact bodyPost_ret (results_at2 rfl rfl (setRow_heap _ _ _ _ _ _ GX.out) Try.underlying49 rfl size49 rfl) rfl ⟨Or.inr ⟨HNO.out, rfl⟩, below_setRow OX.out (Nat.le_refl _) _⟩
    · rw [hbad] at x1
      have HBD := hid hbad
      clear hbad
      have HNO := hid (show ¬ OK from fun h => by have h2 := HOK.out.1 h; rw [HBD.out] at h2; exact Bool.noConfusion h2.2.1)
      go_wp2_with (refine wpList_store_at rfl 49 (.tmp 2) (.tmp 55) rfl rfl rfl GX.out size49 rfl rfl rfl ?_)
      exact bodyPost_ret (results_at2 rfl rfl (setRow_heap _ _ _ _ _ _ GX.out) Try.underlying49 rfl size49 rfl) rfl ⟨Or.inr ⟨HNO.out, rfl⟩, below_setRow OX.out (Nat.le_refl _) _⟩
  · have HS := hid hs
    have HSD := hid (show decide ((be (fun i => l.getD (n + i) 0) 4).toNat = crcV (fun i => l.getD i 0) n) = false from decide_eq_false hs)
    have HNO := hid (show ¬ OkX l n from fun h => hs h.1)
    clear hs
    go_enter Try.func44, Try.ntmps44
    go_wp2_with fail
    refine (HCK.out _ (by repeat' (first | (with_reducible exact Below.refl _ _) | (with_reducible assumption) | (with_reducible refine Below.alloc ?_ ?_ _) | (with_reducible refine Below.drew ?_) | (with_reducible refine below_drewN ?_ _) | go_size))).mono ?_
    rintro r w1 ⟨rfl, hb1⟩
    rw [HSD.out]
    have HT1 := hid (heap_still hb1 (heap_alloc_at w (.cells #[.int .i64 0, .int .i64 0, .int .i64 0, .int .i64 0, .slice none 0 0] 49) _ rfl))
    have HB1 := hid ((show Below w.heap.size w _ from (by repeat' (first | (with_reducible exact Below.refl _ _) | (with_reducible assumption) | (with_reducible refine Below.alloc ?_ ?_ _) | (with_reducible refine Below.drew ?_) | (with_reducible refine below_drewN ?_ _) | go_size))).trans (hb1.mono (by simp)))
    clear hb1
    go_wp2_with (refine wpList_store_at rfl 49 (.tmp 2) (.tmp 15) rfl rfl rfl HT1.out size49 rfl rfl rfl ?_)
    exact bodyPost_ret (results_at2 rfl rfl (setRow_heap _ _ _ _ _ _ HT1.out) Try.underlying49 rfl size49 rfl) rfl ⟨Or.inr ⟨HNO.out, rfl⟩, below_setRow HB1.out (Nat.le_refl _) _⟩
end Go.Proofs.Yteanlcefdoigcaa
