/- The reference's Decode. (Printed by wip/gen_decry.py.) -/
import Derived.Test.YteanlcefdoigcaaDecRP
import Derived.Test.YteanlcefdoigcaaStrM
namespace Go.Proofs.Yteanlcefdoigcaa
open Go.RowKit

set_option maxRecDepth 100000 in
set_option maxHeartbeats 6400000 in
theorem rDecode_any (b off cap : Nat) (l : List Nat) (w : World) (hbw : b < w.heap.size) (hl : ∀ x ∈ l, x < 256) (hnc : l.length ≤ cap) (hc : cap ≤ 9223372036854775807) (hb : bytesAt w b off l.length (fun i => l.getD i 0)) :
    Calls Try.prog 45 #[.slice (some ⟨b, off, none⟩) l.length cap] w fun r w' => ((OkR l ∧ GotT (tileR (stL l)).1 r w') ∨ (¬ OkR l ∧ r = refusedT)) ∧ Below w.heap.size w w' := by
  have HLB := hid hl
  have HBY := hid hb
  have HOK := hid (show OkR l ↔ (tileR (stL l)).2.bad = false ∧ TlOk (tileR (stL l)).1 ∧ encT (tileR (stL l)).1 = l from Iff.rfl)
  clear hl hb
  have HTK := hid (List.take_length (l := l))
  obtain ⟨n, hn⟩ : ∃ n, n = l.length := ⟨_, rfl⟩
  rw [← hn] at hnc ⊢
  have HN := hid hn
  clear hn
  rcases e0 : nextS false (stL l) with ⟨v0, t1⟩
  rcases e1 : nextS false t1 with ⟨v1, t2⟩
  rcases e2 : nextS false t2 with ⟨v2, t3⟩
  rcases e3 : nextS false t3 with ⟨v3, t4⟩
  rcases e4 : nextS false t4 with ⟨v4, t5⟩
  have q4 := nextU_range t4
  rw [e4] at q4
  simp only at q4
  obtain ⟨N, hN⟩ : ∃ N : Nat, (if v4 < 1025 then v4 else 1025).toNat = N := ⟨_, rfl⟩
  have hN1 : N ≤ 1025 := by rw [← hN]; split <;> omega
  have HMN := hid (show min v4 1025 = (N : Int) by rw [← hN, Int.min_def]; split <;> split <;> omega)
  rcases e5 : ptsR N 0 t5 with ⟨P, t6⟩
  have HTX := hid (show tileR (stL l) = (⟨⟨v0, v1, v2, v3⟩, P⟩, t6) by unfold tileR; simp only [e0, e1, e2, e3, e4]; rw [hN, e5])
  rw [HTX.out] at HOK
  rw [HTX.out]
  have E0 := hid e0
  have E1 := hid e1
  have E2 := hid e2
  have E3 := hid e3
  have E4 := hid e4
  have E5 := hid e5
  clear e0 e1 e2 e3 e4 e5 hN
  obtain ⟨OK, hok⟩ : ∃ OK : Prop, OK = OkR l := ⟨_, rfl⟩
  rw [← hok] at HOK ⊢
  clear hok
  simp only at HOK ⊢
  obtain ⟨rb, hrb⟩ : ∃ rb, rb = w.heap.size + 1 := ⟨_, rfl⟩
  have HRB := hid hrb
  have G1 := hid (show (((w.alloc (.cells #[.int .i64 0, .int .i64 0, .int .i64 0, .int .i64 0, .slice none 0 0] 49)).alloc (.cells #[.slice (some ⟨b, off, none⟩) n cap, .bool false] 123)).alloc (.cells #[.int .i64 0, .int .i64 0, .int .i64 0, .int .i64 0, .slice none 0 0] 49)).heap[w.heap.size]? = some (.cells #[.int .i64 0, .int .i64 0, .int .i64 0, .int .i64 0, .slice none 0 0] 49) from heap_alloc_past _ _ _ _ (heap_alloc_past _ _ _ _ (heap_alloc_at _ _ _ rfl)))
  have T1 := hid (show (((w.alloc (.cells #[.int .i64 0, .int .i64 0, .int .i64 0, .int .i64 0, .slice none 0 0] 49)).alloc (.cells #[.slice (some ⟨b, off, none⟩) n cap, .bool false] 123)).alloc (.cells #[.int .i64 0, .int .i64 0, .int .i64 0, .int .i64 0, .slice none 0 0] 49)).heap[rb + 1]? = some (.cells #[.int .i64 0, .int .i64 0, .int .i64 0, .int .i64 0, .slice none 0 0] 49) from heap_alloc_at _ _ _ (by simp [hrb]))
  have O1 := hid (show Below w.heap.size w (((w.alloc (.cells #[.int .i64 0, .int .i64 0, .int .i64 0, .int .i64 0, .slice none 0 0] 49)).alloc (.cells #[.slice (some ⟨b, off, none⟩) n cap, .bool false] 123)).alloc (.cells #[.int .i64 0, .int .i64 0, .int .i64 0, .int .i64 0, .slice none 0 0] 49)) from (by repeat' (first | (with_reducible exact Below.refl _ _) | (with_reducible assumption) | (with_reducible refine Below.alloc ?_ ?_ _) | (with_reducible refine Below.drew ?_) | (with_reducible refine below_drewN ?_ _) | go_size)))
  have R1 := hid (rd_start (n := n) (cap := cap) (rb := rb) (l := l) (b := b) (off := off) (ty := 123) (w := ((w.alloc (.cells #[.int .i64 0, .int .i64 0, .int .i64 0, .int .i64 0, .slice none 0 0] 49)).alloc (.cells #[.slice (some ⟨b, off, none⟩) n cap, .bool false] 123)).alloc (.cells #[.int .i64 0, .int .i64 0, .int .i64 0, .int .i64 0, .slice none 0 0] 49))
    (fun i hi => by rw [O1.out.cell (p := ⟨b, off + i, none⟩) hbw]; exact HBY.out i hi) HLB.out (by rw [HN.out]; omega) hnc hc (by simp; omega) (heap_alloc_past _ _ _ _ (heap_alloc_at _ _ _ (by simp [hrb]))) (by omega))
  rw [HN.out, HTK.out, ← HN.out] at R1
  have hzz : (((w.alloc (.cells #[.int .i64 0, .int .i64 0, .int .i64 0, .int .i64 0, .slice none 0 0] 49)).alloc (.cells #[.slice (some ⟨b, off, none⟩) n cap, .bool false] 123)).alloc (.cells #[.int .i64 0, .int .i64 0, .int .i64 0, .int .i64 0, .slice none 0 0] 49)).heap.size = rb + 2 := by simp [hrb]
  have hrw : w.heap.size < rb := by omega
  clear hrb
  go_enter Try.func45, Try.ntmps45
  go_wp2_with fail
  generalize ((w.alloc (.cells #[.int .i64 0, .int .i64 0, .int .i64 0, .int .i64 0, .slice none 0 0] 49)).alloc (.cells #[.slice (some ⟨b, off, none⟩) n cap, .bool false] 123)).alloc (.cells #[.int .i64 0, .int .i64 0, .int .i64 0, .int .i64 0, .slice none 0 0] 49) = W1 at *
  rw [← HRB.out]
  refine (rnum_at _ E0.out R1.out).mono ?_
  rintro r w2 ⟨rfl, hrd, hol⟩
  have R2 := hid hrd
  have T2 := hid (show w2.heap[rb + 1]? = some (.cells #[.int .i64 0, .int .i64 0, .int .i64 0, .int .i64 0, .slice none 0 0] 49) from hol.heap (by omega) T1.out)
  have G2 := hid (show w2.heap[w.heap.size]? = some (.cells #[.int .i64 0, .int .i64 0, .int .i64 0, .int .i64 0, .slice none 0 0] 49) from hol.heap (by omega) G1.out)
  have O2 := hid (O1.out.trans (hol.below (B := w.heap.size) (by omega) (by omega)))
  have hz2 : rb + 1 < w2.heap.size := (Array.getElem?_eq_some_iff.1 T2.out).1
  have c2 : w2.cell? ⟨rb + 1, 0, none⟩ = some (.int .i64 0) := (cell_row (j := 0) T2.out).trans rfl
  have f2 : w2.frozen? ⟨rb + 1, 0, none⟩ = false := by have hh := T2.out; simp [World.frozen?, hh]
  clear hrd hol
  go_wp2_with fail
  refine (rnum_at _ E1.out (R2.out.set (by omega) (by have := R2.out.apart; omega) _)).mono ?_
  rintro r w3 ⟨rfl, hrd, hol⟩
  have R3 := hid hrd
  have T3 := hid (show w3.heap[rb + 1]? = some (.cells #[.int .i64 v0, .int .i64 0, .int .i64 0, .int .i64 0, .slice none 0 0] 49) from hol.heap (by omega) (heap_setCell T2.out _))
  have G3 := hid (show w3.heap[w.heap.size]? = some (.cells #[.int .i64 0, .int .i64 0, .int .i64 0, .int .i64 0, .slice none 0 0] 49) from hol.heap (by omega) (heap_set_other G2.out (by omega) _))
  have O3 := hid ((O2.out.setCell (p := ⟨rb + 1, 0, none⟩) (by show w.heap.size ≤ rb + 1; omega) (.int .i64 v0)).trans (hol.below (B := w.heap.size) (by omega) (by simp; omega)))
  have hz3 : rb + 1 < w3.heap.size := (Array.getElem?_eq_some_iff.1 T3.out).1
  have c3 : w3.cell? ⟨rb + 1, 1, none⟩ = some (.int .i64 0) := (cell_row (j := 1) T3.out).trans rfl
  have f3 : w3.frozen? ⟨rb + 1, 1, none⟩ = false := by have hh := T3.out; simp [World.frozen?, hh]
  clear hrd hol
  go_wp2_with fail
  refine (rnum_at _ E2.out (R3.out.set (by omega) (by have := R3.out.apart; omega) _)).mono ?_
  rintro r w4 ⟨rfl, hrd, hol⟩
  have R4 := hid hrd
  have T4 := hid (show w4.heap[rb + 1]? = some (.cells #[.int .i64 v0, .int .i64 v1, .int .i64 0, .int .i64 0, .slice none 0 0] 49) from hol.heap (by omega) (heap_setCell T3.out _))
  have G4 := hid (show w4.heap[w.heap.size]? = some (.cells #[.int .i64 0, .int .i64 0, .int .i64 0, .int .i64 0, .slice none 0 0] 49) from hol.heap (by omega) (heap_set_other G3.out (by omega) _))
  have O4 := hid ((O3.out.setCell (p := ⟨rb + 1, 1, none⟩) (by show w.heap.size ≤ rb + 1; omega) (.int .i64 v1)).trans (hol.below (B := w.heap.size) (by omega) (by simp; omega)))
  have hz4 : rb + 1 < w4.heap.size := (Array.getElem?_eq_some_iff.1 T4.out).1
  have c4 : w4.cell? ⟨rb + 1, 2, none⟩ = some (.int .i64 0) := (cell_row (j := 2) T4.out).trans rfl
  have f4 : w4.frozen? ⟨rb + 1, 2, none⟩ = false := by have hh := T4.out; simp [World.frozen?, hh]
  clear hrd hol
  go_wp2_with fail
  refine (rnum_at _ E3.out (R4.out.set (by omega) (by have := R4.out.apart; omega) _)).mono ?_
  rintro r w5 ⟨rfl, hrd, hol⟩
  have R5 := hid hrd
  have T5 := hid (show w5.heap[rb + 1]? = some (.cells #[.int .i64 v0, .int .i64 v1, .int .i64 v2, .int .i64 0, .slice none 0 0] 49) from hol.heap (by omega) (heap_setCell T4.out _))
  have G5 := hid (show w5.heap[w.heap.size]? = some (.cells #[.int .i64 0, .int .i64 0, .int .i64 0, .int .i64 0, .slice none 0 0] 49) from hol.heap (by omega) (heap_set_other G4.out (by omega) _))
  have O5 := hid ((O4.out.setCell (p := ⟨rb + 1, 2, none⟩) (by show w.heap.size ≤ rb + 1; omega) (.int .i64 v2)).trans (hol.below (B := w.heap.size) (by omega) (by simp; omega)))
  have hz5 : rb + 1 < w5.heap.size := (Array.getElem?_eq_some_iff.1 T5.out).1
  have c5 : w5.cell? ⟨rb + 1, 3, none⟩ = some (.int .i64 0) := (cell_row (j := 3) T5.out).trans rfl
  have f5 : w5.frozen? ⟨rb + 1, 3, none⟩ = false := by have hh := T5.out; simp [World.frozen?, hh]
  clear hrd hol
  go_wp2_with fail
  refine (rnum_at _ E4.out (R5.out.set (by omega) (by have := R5.out.apart; omega) _)).mono ?_
  rintro r w6 ⟨rfl, hrd, hol⟩
  have R6 := hid hrd
  have T6 := hid (show w6.heap[rb + 1]? = some (.cells #[.int .i64 v0, .int .i64 v1, .int .i64 v2, .int .i64 v3, .slice none 0 0] 49) from hol.heap (by omega) (heap_setCell T5.out _))
  have G6 := hid (show w6.heap[w.heap.size]? = some (.cells #[.int .i64 0, .int .i64 0, .int .i64 0, .int .i64 0, .slice none 0 0] 49) from hol.heap (by omega) (heap_set_other G5.out (by omega) _))
  have O6 := hid ((O5.out.setCell (p := ⟨rb + 1, 3, none⟩) (by show w.heap.size ≤ rb + 1; omega) (.int .i64 v3)).trans (hol.below (B := w.heap.size) (by omega) (by simp; omega)))
  have hz6 : rb + 1 < w6.heap.size := (Array.getElem?_eq_some_iff.1 T6.out).1
  clear hrd hol c2 c3 c4 c5 f2 f3 f4 f5
  have hmn := HMN.out
  go_wp2_with fail

  clear hmn
  refine (rpoints_any rb b N t5 _ hN1 R6.out).mono ?_
  rw [E5.out]
  rintro r w7 ⟨⟨v, rfl, hown, hpl⟩, hrd, hol⟩
  obtain ⟨oa, oc, rfl⟩ := hown.slice
  simp only at hown hpl
  obtain ⟨pn, hpn⟩ : ∃ pn, pn = P.length := ⟨_, rfl⟩
  rw [← hpn] at hown ⊢
  clear hpn
  have HPL := hid hpl
  have R7 := hid hrd
  have T7 := hid (show w7.heap[rb + 1]? = some (.cells #[.int .i64 v0, .int .i64 v1, .int .i64 v2, .int .i64 v3, .slice none 0 0] 49) from hol.heap (by omega) T6.out)
  have G7 := hid (show w7.heap[w.heap.size]? = some (.cells #[.int .i64 0, .int .i64 0, .int .i64 0, .int .i64 0, .slice none 0 0] 49) from hol.heap (by omega) G6.out)
  have O7 := hid (O6.out.trans (hol.below (B := w.heap.size) (by omega) (by omega)))
  have hz7 : rb + 1 < w7.heap.size := (Array.getElem?_eq_some_iff.1 T7.out).1
  have c7 : w7.cell? ⟨rb + 1, 4, none⟩ = some (.slice none 0 0) := (cell_row (j := 4) T7.out).trans rfl
  have f7 : w7.frozen? ⟨rb + 1, 4, none⟩ = false := by have hh := T7.out; simp [World.frozen?, hh]
  have HOW := hid (OwnR.mono hown (by omega) : OwnP w7 (rb + 2) (.slice oa pn oc) P)
  have HOX := hid (OwnR.heap (W' := (w7.setCell ⟨rb + 1, 4, none⟩ (.slice oa pn oc))) HOW.out (fun g x hx hg => by
    rw [Below.heap_setCell w7 ⟨rb + 1, 4, none⟩ _ g (fun e => by
      have h1 : g = rb + 1 := e
      omega)]
    exact hx) : OwnP (w7.setCell ⟨rb + 1, 4, none⟩ (.slice oa pn oc)) (rb + 2) (.slice oa pn oc) P)
  have RX := hid (show RdAt (w7.setCell ⟨rb + 1, 4, none⟩ (.slice oa pn oc)) rb 123 b t6 from R7.out.set (by omega) (by have := R7.out.apart; omega) _)
  have TX := hid (show (w7.setCell ⟨rb + 1, 4, none⟩ (.slice oa pn oc)).heap[rb + 1]? = some (.cells #[.int .i64 v0, .int .i64 v1, .int .i64 v2, .int .i64 v3, .slice oa pn oc] 49) from heap_setCell T7.out _)
  have GX := hid (show (w7.setCell ⟨rb + 1, 4, none⟩ (.slice oa pn oc)).heap[w.heap.size]? = some (.cells #[.int .i64 0, .int .i64 0, .int .i64 0, .int .i64 0, .slice none 0 0] 49) from heap_set_other G7.out (by omega) _)
  have OX := hid (show Below w.heap.size w (w7.setCell ⟨rb + 1, 4, none⟩ (.slice oa pn oc)) from O7.out.setCell (p := ⟨rb + 1, 4, none⟩) (by show w.heap.size ≤ rb + 1; omega) _)
  clear hrd hol hown hpl
  have y0 : (w7.setCell ⟨rb + 1, 4, none⟩ (.slice oa pn oc)).cell? ⟨rb + 1, 0, none⟩ = some (.int .i64 v0) := (cell_row (j := 0) TX.out).trans rfl
  have y1 : (w7.setCell ⟨rb + 1, 4, none⟩ (.slice oa pn oc)).cell? ⟨rb + 1, 1, none⟩ = some (.int .i64 v1) := (cell_row (j := 1) TX.out).trans rfl
  have y2 : (w7.setCell ⟨rb + 1, 4, none⟩ (.slice oa pn oc)).cell? ⟨rb + 1, 2, none⟩ = some (.int .i64 v2) := (cell_row (j := 2) TX.out).trans rfl
  have y3 : (w7.setCell ⟨rb + 1, 4, none⟩ (.slice oa pn oc)).cell? ⟨rb + 1, 3, none⟩ = some (.int .i64 v3) := (cell_row (j := 3) TX.out).trans rfl
  have y4 : (w7.setCell ⟨rb + 1, 4, none⟩ (.slice oa pn oc)).cell? ⟨rb + 1, 4, none⟩ = some (.slice oa pn oc) := (cell_row (j := 4) TX.out).trans rfl
  go_wp2_with fail
  clear y0 y1 y2 y3 y4 c7 f7
  refine (rEncode_any ⟨v0, v1, v2, v3⟩ (.slice oa pn oc) P _ (OwnP.ptsV HOX.out) (by have := HPL.out; unfold maxLen; omega)).mono ?_
  rintro r w8 ⟨hres, hb8⟩
  have G8 := hid (heap_still hb8 GX.out)
  have T8 := hid (heap_still hb8 TX.out)
  have O8 := hid (OX.out.trans (hb8.mono OX.out.size))
  have HO8 := hid (OwnR.grow HOX.out hb8 : OwnP w8 (rb + 2) (.slice oa pn oc) P)
  have R8 := hid (RX.out.grow hb8)
  have x1 := R8.out.flag.1
  clear hb8
  rcases hres with ⟨hT, v9, rfl, hown9⟩ | ⟨hT, rfl⟩
  · obtain ⟨g9, cap9, rfl, hc9, hm9, hby9, hg9, hz9⟩ := ownB_at hown9 (by have := encT_long ⟨⟨v0, v1, v2, v3⟩, P⟩; omega)
    have hs1 := str_at (cap := cap9) hby9
    have hs2 : (convert 70 9 (.slice (some ⟨b, off, none⟩) n cap)).run Try.prog w8 = .ok (.string (strL l)) w8 := by
      rw [HN.out]
      exact str_at (fun i hi => by rw [O8.out.cell (p := ⟨b, off + i, none⟩) hbw]; exact HBY.out i hi)
    have HT := hid hT
    have HSE := hid (strL_eq (l := encT ⟨⟨v0, v1, v2, v3⟩, P⟩) (m := l) (by exact app_byte (encB_byte _) (by intro x hx; simp [bytes4] at hx; omega)) HLB.out)
    generalize encT ⟨⟨v0, v1, v2, v3⟩, P⟩ = ET at *
    generalize strL ET = S1 at *
    generalize strL l = S2 at *
    generalize ET.length = m9 at *
    clear hT hown9 hby9
    cases hbad : t6.bad
    · rw [hbad] at x1
      have HBD := hid hbad
      clear hbad
      by_cases hS : S1 = S2
      · have HYES := hid (show OK from HOK.out.2 ⟨HBD.out, HT.out, HSE.out.1 hS⟩)
        subst hS
        have z0 : w8.cell? ⟨rb + 1, 0, none⟩ = some (.int .i64 v0) := (cell_row (j := 0) T8.out).trans rfl
        have z1 : w8.cell? ⟨rb + 1, 1, none⟩ = some (.int .i64 v1) := (cell_row (j := 1) T8.out).trans rfl
        have z2 : w8.cell? ⟨rb + 1, 2, none⟩ = some (.int .i64 v2) := (cell_row (j := 2) T8.out).trans rfl
        have z3 : w8.cell? ⟨rb + 1, 3, none⟩ = some (.int .i64 v3) := (cell_row (j := 3) T8.out).trans rfl
        have z4 : w8.cell? ⟨rb + 1, 4, none⟩ = some (.slice oa pn oc) := (cell_row (j := 4) T8.out).trans rfl
        go_wp2_with (refine wpList_store_at rfl 49 (.tmp 2) (.tmp 56) rfl rfl rfl G8.out size49 rfl rfl rfl ?_)
        refine bodyPost_ret (results_at2 rfl rfl (setRow_heap _ _ _ _ _ _ G8.out) Try.underlying49 rfl size49 rfl) rfl ⟨Or.inl ⟨HYES.out, .slice oa pn oc, rfl, OwnP.ptsV (base := rb + 2) (OwnR.heap HO8.out (fun g x hx hg => ?_))⟩, below_setRow O8.out (Nat.le_refl _) _⟩
        rw [setRow_other w8 w.heap.size g _ (by omega)]
        exact hx
      · have hSb : (S1.toList == S2.toList) = false := str_ne hS
        have HNO := hid (show ¬ OK from fun h => by have h2 := HOK.out.1 h; exact hS (HSE.out.2 h2.2.2))
        go_wp2_with (refine wpList_store_at rfl 49 (.tmp 2) (.tmp 55) rfl rfl rfl G8.out size49 rfl rfl rfl ?_)
        exact bodyPost_ret (results_at2 rfl rfl (setRow_heap _ _ _ _ _ _ G8.out) Try.underlying49 rfl size49 rfl) rfl ⟨Or.inr ⟨HNO.out, rfl⟩, below_setRow O8.out (Nat.le_refl _) _⟩
    · rw [hbad] at x1
      have HBD := hid hbad
      clear hbad hs1 hs2
      have HNO := hid (show ¬ OK from fun h => by have h2 := HOK.out.1 h; rw [HBD.out] at h2; exact Bool.noConfusion h2.1)
      go_wp2_with (refine wpList_store_at rfl 49 (.tmp 2) (.tmp 55) rfl rfl rfl G8.out size49 rfl rfl rfl ?_)
      exact bodyPost_ret (results_at2 rfl rfl (setRow_heap _ _ _ _ _ _ G8.out) Try.underlying49 rfl size49 rfl) rfl ⟨Or.inr ⟨HNO.out, rfl⟩, below_setRow O8.out (Nat.le_refl _) _⟩
  · have HNT := hid hT
    clear hT
    cases hbad : t6.bad
    · rw [hbad] at x1
      clear hbad
      have HNO := hid (show ¬ OK from fun h => by have h2 := HOK.out.1 h; exact HNT.out h2.2.1)
      go_wp2_with (refine wpList_store_at rfl 49 (.tmp 2) (.tmp 55) rfl rfl rfl G8.out size49 rfl rfl rfl ?_)
      exact bodyPost_ret (results_at2 rfl rfl (setRow_heap _ _ _ _ _ _ G8.out) Try.underlying49 rfl size49 rfl) rfl ⟨Or.inr ⟨HNO.out, rfl⟩, below_setRow O8.out (Nat.le_refl _) _⟩
    · rw [hbad] at x1
      clear hbad
      have HNO := hid (show ¬ OK from fun h => by have h2 := HOK.out.1 h; exact HNT.out h2.2.1)
      go_wp2_with (refine wpList_store_at rfl 49 (.tmp 2) (.tmp 55) rfl rfl rfl G8.out size49 rfl rfl rfl ?_)
      exact bodyPost_ret (results_at2 rfl rfl (setRow_heap _ _ _ _ _ _ G8.out) Try.underlying49 rfl size49 rfl) rfl ⟨Or.inr ⟨HNO.out, rfl⟩, below_setRow O8.out (Nat.le_refl _) _⟩
end Go.Proofs.Yteanlcefdoigcaa
