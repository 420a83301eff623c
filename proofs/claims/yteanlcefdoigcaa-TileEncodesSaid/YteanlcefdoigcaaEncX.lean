/- The bytes that the program writes for a tile. -/
import Derived.Test.YteanlcefdoigcaaEncM
import Derived.Test.YteanlcefdoigcaaTileX
namespace Go.Proofs.Yteanlcefdoigcaa
open Go.RowKit

theorem Only.cell {rb B : Nat} {w w' : World} (h : Only rb B w w') {b o : Nat} (hb : b < B) (hne : b ≠ rb) : w'.cell? ⟨b, o, none⟩ = w.cell? ⟨b, o, none⟩ := World.cell?_of_block (w := w) (w' := w') (a := ⟨b, o, none⟩) (h.block b hb hne)
theorem row_new {w : World} {zs : List Int} {cs : Array Value} {lb : Nat} (hb : lb = w.heap.size) (hcs : cs = (zs.map (Value.int .i64)).toArray) {m : Nat} (hm : zs.length = m) : ∀ i, i < m → (w.alloc (.cells cs 3)).cell? ⟨lb, 0 + i, none⟩ = some (.int .i64 (zs.getD i 0)) := fun i hi => by
  subst hcs hm hb
  rw [Nat.zero_add, cell_row (heap_alloc_at _ _ _ rfl)]
  simp [List.getD_eq_getElem?_getD, hi]
theorem WrAt.grow {w w' : World} {wb : Nat} {xs : List Nat} (h : WrAt w wb xs) (hb : Below w.heap.size w w') : WrAt w' wb xs := by
  obtain ⟨v, hr, ho⟩ := h
  exact ⟨v, heap_still hb hr, ho.grow hb⟩
set_option maxRecDepth 100000 in
set_option maxHeartbeats 1600000 in
theorem wPoints_any (wb : Nat) (v : Value) (P : List Pt) (xs : List Nat) (w0 w : World) (hw : WrAt w wb xs) (hx : xs.length ≤ 1000) (hp : PtsV w0 v P) (hb : Below w0.heap.size w0 w) (hB : w0.heap.size ≤ wb) (hP : NumsOk P) (hl : P.length ≤ 1024) :
    Calls Try.prog 117 #[.pointer (some ⟨wb, 0, none⟩), v] w fun e w' => e = .returned (.tuple #[]) ∧ WrAt w' wb (xs ++ encs encU [(P.length : Int)] ++ encPs 0 P) ∧ Only wb w.heap.size w w' := by
  have HP := hid (hp.still hb)
  have HN := hid hP
  obtain ⟨a, cap, rfl, hpd⟩ := hp
  obtain ⟨n, hnl⟩ : ∃ n, n = P.length := ⟨_, rfl⟩
  have HPD := hid hpd
  have HW := hid hw
  have HBB := hid hb
  have HNL := hid hnl
  have hl1 : n ≤ 1024 := by omega
  have hwb : wb < w.heap.size := by
    obtain ⟨v, hr, _⟩ := hw
    exact (Array.getElem?_eq_some_iff.1 hr).1
  rw [← hnl]
  clear hP hpd hw hb hnl
  go_enter Try.func117, Try.ntmps117
  go_wp2_with fail
  refine (wNumber_any wb w.heap.size 0 1 1 [(n : Int)] xs _ ?_ (by omega) (by simp; omega) rfl (by omega) ?_ ?_ (by omega)).mono ?_
  · exact HW.out.grow (by repeat' (first | (with_reducible exact Below.refl _ _) | (with_reducible refine Below.alloc ?_ ?_ _) | (with_reducible refine Below.drew ?_) | (with_reducible refine below_drewN ?_ _) | go_size))
  · exact row_new (zs := [(n : Int)]) (cs := #[.int .i64 (n : Int)]) rfl rfl rfl
  · simp
  rintro r w1 ⟨rfl, hw1, ho1⟩
  have HW1 := hid hw1
  have HO1 := hid ho1
  have hz1 := ho1.size
  simp at hz1
  clear hw1 ho1
  go_wp2_with fail
  go_loopw [4, 14] (fun lv i wr => ∃ k : Nat, k ≤ n ∧ i = .int .i64 (k : Int) ∧ lv = .int .i64 (endL 0 (P.take k)) ∧ WrAt wr wb (xs ++ encs encU [(n : Int)] ++ encPs 0 (P.take k)) ∧ Only wb w.heap.size w wr) (fun _ i _ => n - (intOf i).toNat)
  case atStart => exact ⟨0, by omega, rfl, rfl, by simpa [encPs] using HW1.out, (Only.of_below ((by repeat' (first | (with_reducible exact Below.refl _ _) | (with_reducible refine Below.alloc ?_ ?_ _) | (with_reducible refine Below.drew ?_) | (with_reducible refine below_drewN ?_ _) | go_size)))).trans HO1.out (by simp)⟩
  case round =>
    obtain ⟨k, hk, rfl, rfl, hw2, ho2⟩ := hrel
    have HW2 := hid hw2
    have HO2 := hid ho2
    have hz2 := ho2.size
    clear hw2 ho2
    by_cases hlt : k < n
    · obtain ⟨p, hpk⟩ : ∃ p, P[k]? = some p := ⟨_, List.getElem?_eq_getElem (by rw [← HNL.out]; exact hlt)⟩
      have hne0 : P ≠ [] := fun e => by subst e; simp at hpk
      obtain ⟨b, off, rfl, hbw, hrows⟩ := HPD.out.resolve_left hne0
      have hnm := HN.out k p hpk
      have HLEN := hid (show (xs ++ encs encU [(n : Int)] ++ encPs 0 (P.take k)).length ≤ 90000 by
        have h1 := encPs_len HN.out k (by rw [← HNL.out]; omega)
        have h2 := encs_len (f := encU) (m := 9) [(n : Int)] (fun z hz => nat_len (by simp at hz; omega))
        simp at h2 ⊢
        omega)
      have HEN := hid (endL_snoc 0 p (P.take k))
      have HES := hid (show xs ++ encs encU [(n : Int)] ++ encPs 0 (P.take k ++ [p]) = xs ++ encs encU [(n : Int)] ++ encPs 0 (P.take k) ++ encP (endL 0 (P.take k)) p by rw [encPs_snoc]; simp only [List.append_assoc])
      have HTN := hid (take_next hpk)
      have hcs : ∀ q, q < 9 → wr.cell? ⟨b, off + k * 9 + q, none⟩ = some (.int .i64 (p.f q)) := fun q hq => by
        rw [HO2.out.cell (by have := HBB.out.size; omega) (by omega), HBB.out.cell hbw, hrows k p.row (by rw [List.getElem?_map, hpk]; rfl) q hq, Pt.row_at p q hq]
      have HPK := hid hpk
      have hx1 := hnm.id
      have hx2 := hnm.i
      have hx3 := hnm.l
      have hx4 := hnm.z
      have hx5 := hnm.h
      have HNM := hid hnm
      clear hpk hrows hnm
      generalize hle : endL 0 (P.take k) = le at *
      generalize xs ++ encs encU [(n : Int)] ++ encPs 0 (P.take k) = ys at *
      obtain ⟨p0, p1, p2, p3, p4, p5, p6, p7, p8⟩ := p
      simp only at hx1 hx2 hx3 hx4 hx5
      have a0 : wr.cell? ⟨b, off + k * 9, none⟩ = some (.int .i64 p0) := hcs 0 (by decide)
      have a1 : wr.cell? ⟨b, off + k * 9 + 1, none⟩ = some (.int .i64 p1) := hcs 1 (by decide)
      have a2 : wr.cell? ⟨b, off + k * 9 + 2, none⟩ = some (.int .i64 p2) := hcs 2 (by decide)
      have a3 : wr.cell? ⟨b, off + k * 9 + 3, none⟩ = some (.int .i64 p3) := hcs 3 (by decide)
      have a4 : wr.cell? ⟨b, off + k * 9 + 4, none⟩ = some (.int .i64 p4) := hcs 4 (by decide)
      have a5 : wr.cell? ⟨b, off + k * 9 + 5, none⟩ = some (.int .i64 p5) := hcs 5 (by decide)
      have a6 : wr.cell? ⟨b, off + k * 9 + 6, none⟩ = some (.int .i64 p6) := hcs 6 (by decide)
      have a7 : wr.cell? ⟨b, off + k * 9 + 7, none⟩ = some (.int .i64 p7) := hcs 7 (by decide)
      have a8 : wr.cell? ⟨b, off + k * 9 + 8, none⟩ = some (.int .i64 p8) := hcs 8 (by decide)
      clear hcs
      go_wp2_with fail
      clear a0 a1 a2 a3 a4 a5 a6 a7 a8
      refine (wNumber_any wb (wr.heap.size + 1) 0 1 1 [p0 - le] ys _ (HW2.out.grow (by repeat' (first | (with_reducible exact Below.refl _ _) | (with_reducible refine Below.alloc ?_ ?_ _) | (with_reducible refine Below.drew ?_) | (with_reducible refine below_drewN ?_ _) | go_size))) (by have := HLEN.out; omega) (by simp; omega) rfl (by omega) (row_new (zs := [p0 - le]) (by simp) rfl rfl) (by simp) (by omega)).mono ?_
      rintro r w3 ⟨rfl, hw3, ho3⟩
      have HW3 := hid hw3
      have HO3 := hid ((HO2.out.trans (Only.of_below (B := wr.heap.size) (by repeat' (first | (with_reducible exact Below.refl _ _) | (with_reducible refine Below.alloc ?_ ?_ _) | (with_reducible refine Below.drew ?_) | (with_reducible refine below_drewN ?_ _) | go_size))) HO2.out.size).trans ho3 (by simp; omega))
      have HP3 := hid (show w3.heap[wr.heap.size]? = some (.cells #[.int .i64 p0, .int .i64 p1, .int .i64 p2, .int .i64 p3, .int .i64 p4, .int .i64 p5, .int .i64 p6, .int .i64 p7, .int .i64 p8] 36) from ho3.heap (by omega) (heap_alloc_past _ _ _ _ (heap_alloc_at _ _ _ rfl)))
      have hz3 := ho3.size
      simp at hz3
      clear hw3 ho3
      have w3c0 : w3.cell? ⟨wr.heap.size, 0, none⟩ = some (.int .i64 p0) := (cell_row (j := 0) HP3.out).trans rfl
      have w3c1 : w3.cell? ⟨wr.heap.size, 1, none⟩ = some (.int .i64 p1) := (cell_row (j := 1) HP3.out).trans rfl
      have w3c2 : w3.cell? ⟨wr.heap.size, 2, none⟩ = some (.int .i64 p2) := (cell_row (j := 2) HP3.out).trans rfl
      have w3c3 : w3.cell? ⟨wr.heap.size, 3, none⟩ = some (.int .i64 p3) := (cell_row (j := 3) HP3.out).trans rfl
      have w3c4 : w3.cell? ⟨wr.heap.size, 4, none⟩ = some (.int .i64 p4) := (cell_row (j := 4) HP3.out).trans rfl
      have w3c5 : w3.cell? ⟨wr.heap.size, 5, none⟩ = some (.int .i64 p5) := (cell_row (j := 5) HP3.out).trans rfl
      have w3c6 : w3.cell? ⟨wr.heap.size, 6, none⟩ = some (.int .i64 p6) := (cell_row (j := 6) HP3.out).trans rfl
      have w3c7 : w3.cell? ⟨wr.heap.size, 7, none⟩ = some (.int .i64 p7) := (cell_row (j := 7) HP3.out).trans rfl
      have w3c8 : w3.cell? ⟨wr.heap.size, 8, none⟩ = some (.int .i64 p8) := (cell_row (j := 8) HP3.out).trans rfl
      go_wp2_with fail
      clear w3c0 w3c1 w3c2 w3c3 w3c4 w3c5 w3c6 w3c7 w3c8
      refine (wSigned_any wb w3.heap.size 0 3 3 [p1, p2, p3] _ _ (HW3.out.grow (by repeat' (first | (with_reducible exact Below.refl _ _) | (with_reducible refine Below.alloc ?_ ?_ _) | (with_reducible refine Below.drew ?_) | (with_reducible refine below_drewN ?_ _) | go_size))) (by have := HLEN.out; have := encs_len (f := encU) (m := 9) [p0 - le] (fun z hz => nat_len (by simp at hz; omega)); simp at this ⊢; omega) (by have := HNM.out.x; have := HNM.out.y; have := HNM.out.z; simp at *; omega) rfl (by omega) (row_new (zs := [p1, p2, p3]) rfl rfl rfl) (by simp) (by omega)).mono ?_
      rintro r w4 ⟨rfl, hw4, ho4⟩
      have HW4 := hid hw4
      have HO4 := hid ((HO3.out.trans (Only.of_below (B := w3.heap.size) (by repeat' (first | (with_reducible exact Below.refl _ _) | (with_reducible refine Below.alloc ?_ ?_ _) | (with_reducible refine Below.drew ?_) | (with_reducible refine below_drewN ?_ _) | go_size))) HO3.out.size).trans ho4 (by simp; omega))
      have HP4 := hid (show w4.heap[wr.heap.size]? = some (.cells #[.int .i64 p0, .int .i64 p1, .int .i64 p2, .int .i64 p3, .int .i64 p4, .int .i64 p5, .int .i64 p6, .int .i64 p7, .int .i64 p8] 36) from ho4.heap (by omega) (heap_alloc_past _ _ _ _ HP3.out))
      have hz4 := ho4.size
      simp at hz4
      clear hw4 ho4
      have w4c0 : w4.cell? ⟨wr.heap.size, 0, none⟩ = some (.int .i64 p0) := (cell_row (j := 0) HP4.out).trans rfl
      have w4c1 : w4.cell? ⟨wr.heap.size, 1, none⟩ = some (.int .i64 p1) := (cell_row (j := 1) HP4.out).trans rfl
      have w4c2 : w4.cell? ⟨wr.heap.size, 2, none⟩ = some (.int .i64 p2) := (cell_row (j := 2) HP4.out).trans rfl
      have w4c3 : w4.cell? ⟨wr.heap.size, 3, none⟩ = some (.int .i64 p3) := (cell_row (j := 3) HP4.out).trans rfl
      have w4c4 : w4.cell? ⟨wr.heap.size, 4, none⟩ = some (.int .i64 p4) := (cell_row (j := 4) HP4.out).trans rfl
      have w4c5 : w4.cell? ⟨wr.heap.size, 5, none⟩ = some (.int .i64 p5) := (cell_row (j := 5) HP4.out).trans rfl
      have w4c6 : w4.cell? ⟨wr.heap.size, 6, none⟩ = some (.int .i64 p6) := (cell_row (j := 6) HP4.out).trans rfl
      have w4c7 : w4.cell? ⟨wr.heap.size, 7, none⟩ = some (.int .i64 p7) := (cell_row (j := 7) HP4.out).trans rfl
      have w4c8 : w4.cell? ⟨wr.heap.size, 8, none⟩ = some (.int .i64 p8) := (cell_row (j := 8) HP4.out).trans rfl
      go_wp2_with fail
      clear w4c0 w4c1 w4c2 w4c3 w4c4 w4c5 w4c6 w4c7 w4c8
      refine (wNumber_any wb w4.heap.size 0 5 5 [p4 - p3, p5, p6, p7, p8] _ _ (HW4.out.grow (by repeat' (first | (with_reducible exact Below.refl _ _) | (with_reducible refine Below.alloc ?_ ?_ _) | (with_reducible refine Below.drew ?_) | (with_reducible refine below_drewN ?_ _) | go_size))) (by have := HLEN.out; have h1 := encs_len (f := encU) (m := 9) [p0 - le] (fun z hz => nat_len (by simp at hz; omega)); have h2 := encs_len (f := encS) (m := 9) [p1, p2, p3] (fun z hz => zig_len (by have := HNM.out.x; have := HNM.out.y; have := HNM.out.z; simp at *; omega)); simp at h1 h2 ⊢; omega) (by have := HNM.out.h; have := HNM.out.z; have := HNM.out.wd; have := HNM.out.nm; have := HNM.out.of; have := HNM.out.cl; simp at *; omega) rfl (by omega) (row_new (zs := [p4 - p3, p5, p6, p7, p8]) rfl rfl rfl) (by simp) (by omega)).mono ?_
      rintro r w5 ⟨rfl, hw5, ho5⟩
      have HW5 := hid hw5
      have HO5 := hid ((HO4.out.trans (Only.of_below (B := w4.heap.size) (by repeat' (first | (with_reducible exact Below.refl _ _) | (with_reducible refine Below.alloc ?_ ?_ _) | (with_reducible refine Below.drew ?_) | (with_reducible refine below_drewN ?_ _) | go_size))) HO4.out.size).trans ho5 (by simp; omega))
      have HP5 := hid (show w5.heap[wr.heap.size]? = some (.cells #[.int .i64 p0, .int .i64 p1, .int .i64 p2, .int .i64 p3, .int .i64 p4, .int .i64 p5, .int .i64 p6, .int .i64 p7, .int .i64 p8] 36) from ho5.heap (by omega) (heap_alloc_past _ _ _ _ HP4.out))
      have hz5 := ho5.size
      simp at hz5
      clear hw5 ho5
      have w5c0 : w5.cell? ⟨wr.heap.size, 0, none⟩ = some (.int .i64 p0) := (cell_row (j := 0) HP5.out).trans rfl
      go_wp2_with fail
      exact ⟨⟨k + 1, by omega, by go_num, by rw [HTN.out, HEN.out], by rw [HTN.out, HES.out]; unfold encP; rw [← List.append_assoc, ← List.append_assoc]; exact HW5.out, HO5.out⟩, by simp [intOf]; omega⟩
    · obtain rfl : k = n := by omega
      have HF := hid (show xs ++ encs encU [(k : Int)] ++ encPs 0 (P.take k) = xs ++ encs encU [(k : Int)] ++ encPs 0 P by rw [List.take_of_length_le (Nat.le_of_eq HNL.out.symm)])
      have d1 : decide ((k : Int) < (k : Int)) = false := by simp
      go_wp2_with fail
      go_end0
      rw [← HF.out]
      exact ⟨rfl, HW2.out, HO2.out⟩
theorem four_at {w : World} {c : Nat} {z1 z2 z3 z4 : Int} (h : z1 = (c / 16777216 % 256 : Nat) ∧ z2 = (c / 65536 % 256 : Nat) ∧ z3 = (c / 256 % 256 : Nat) ∧ z4 = (c % 256 : Nat)) :
    ∀ (j : Nat) (u : Value), (u8s (bytes4 c))[j]? = some u → (w.alloc (.cells #[.int .u8 z1, .int .u8 z2, .int .u8 z3, .int .u8 z4] 5)).cell? ((⟨w.heap.size, 0, none⟩ : Addr).add j) = some u := by
  obtain ⟨rfl, rfl, rfl, rfl⟩ := h
  intro j u hj
  have ha : ((⟨w.heap.size, 0, none⟩ : Addr).add j) = ⟨w.heap.size, j, none⟩ := by simp [Addr.add]; exact fun h => h.symm
  rw [ha, cell_row (heap_alloc_at _ _ _ rfl), ← hj]
  simp [u8s, bytes4]
theorem u8s_cells {w : World} {B g n cap : Nat} {xs : List Nat} (h : w.ownsRow B 5 1 (.slice (some ⟨g, 0, none⟩) n cap) xs.length (u8s xs)) : bytesAt w g 0 xs.length (fun i => xs.getD i 0) := fun i hi => by
  have := h.cells (g := g) rfl i (.int .u8 (xs[i] : Nat)) (by simp [u8s, hi])
  have ha : ((⟨g, 0, none⟩ : Addr).add i) = ⟨g, 0 + i, none⟩ := by simp [Addr.add]; exact fun h => h.symm
  rw [ha] at this
  rw [this]
  show some (Value.int .u8 (xs[i] : Nat)) = some (Value.int .u8 ((xs.getD i 0 : Nat) : Int))
  rw [show xs.getD i 0 = xs[i] by simp [List.getD_eq_getElem?_getD, hi]]
theorem getD_byte {xs : List Nat} (hg : ∀ x ∈ xs, x < 256) (i : Nat) : xs.getD i 0 < 256 := by
  rw [List.getD_eq_getElem?_getD]
  cases h : xs[i]? with
  | none => simp
  | some x => exact hg x (List.mem_of_getElem? h)
theorem crcL_lt (xs : List Nat) : crcL xs < 4294967296 := (~~~bytesP _ xs.length).isLt
theorem own4 {w : World} {B n c : Nat} {v : Value} {xs : List Nat} (h : w.ownsRow B 5 1 v (n + 4) (u8s xs ++ u8s (bytes4 c))) (hn : xs.length = n) : OwnB w B v (xs ++ bytes4 c) := by
  refine OwnB.of ?_ (by simp [bytes4])
  rw [u8s_append, List.length_append, hn]
  exact h
set_option maxRecDepth 100000 in
theorem wSum_any (wb : Nat) (xs : List Nat) (w : World) (hw : WrAt w wb xs) (hp : 0 < xs.length) (hx : xs.length ≤ 900000) (hg : ∀ x ∈ xs, x < 256) :
    Calls Try.prog 118 #[.pointer (some ⟨wb, 0, none⟩)] w fun e w' => e = .returned (.tuple #[]) ∧ WrAt w' wb (xs ++ bytes4 (crcL xs)) ∧ Below wb w w' := by
  have HW := hid hw
  obtain ⟨v, hr, ho⟩ := hw
  have HR := hid hr
  have HO := hid ho
  rcases ho.cases with ⟨rfl, rfl⟩ | ⟨g, cap, rfl, hgw, _⟩
  · cases hp
  obtain ⟨i0, hi, hz0, hz1, hz2⟩ := info_parts info5
  have HI := hid hi
  have HZ0 := hid hz0
  have HZ1 := hid hz1
  have HZ2 := hid hz2
  have HG := hid hg
  have c0 : w.cell? ⟨wb, 0, none⟩ = some (.slice (some ⟨g, 0, none⟩) xs.length cap) := cell_row hr
  have f0 : w.frozen? ⟨wb, 0, none⟩ = false := by simp [World.frozen?, hr]
  have hwbs : wb < w.heap.size := (Array.getElem?_eq_some_iff.1 hr).1
  have HS := hid (xSum_any g 0 xs.length cap (fun i => xs.getD i 0) w (by omega) (getD_byte hg) (u8s_cells ho.1))
  have HCB := hid (crcL_lt xs)
  have HCL := hid (show crcV (fun i => xs.getD i 0) xs.length = crcL xs from rfl)
  rw [HCL.out] at HS
  generalize crcL xs = c at *
  have hcb := HCB.out
  obtain ⟨n, hnx⟩ : ∃ n, xs.length = n := ⟨_, rfl⟩
  have HNX := hid hnx
  rw [hnx] at HS c0 hp hx
  clear hnx
  clear hr ho hi hz0 hz1 hz2 hg
  go_enter Try.func118, Try.ntmps118
  go_wp2_with fail
  refine HS.out.mono ?_
  rintro r w1 ⟨rfl, rfl⟩
  have HO1 := hid (HO.out.1)
  rw [HNX.out] at HO1
  go_wp2_with (first | (at_builtin; (refine wpList_append_own _ rfl (.tmp 12) (.tmp 24) 70 rfl (wb + 1) 5 i0 (.int .u8 0) 1 1 Try.underlying70 HI.out HZ0.out HZ1.out HZ2.out rfl (by decide) _ n (u8s xs) rfl (HO1.out.alloc _) ⟨w.heap.size, 0, none⟩ 4 4 (u8s (bytes4 c)) rfl rfl (four_at (by omega)) (u8s_one _) (by unfold maxLen; omega) (by omega) (by simp; omega) ?_; intro v' w2 hown2 hgrow2 hnil2; have HO2 := hid (own4 (c := c) hown2 HNX.out); have HR2 := hid ((hgrow2.block wb (by simp; omega) (fun e => by have h1 : wb = g := Option.some.inj e; omega)).trans (heap_alloc_past _ _ _ _ HR.out)); have HB2 := hid ((show Below wb w _ from ((Below.refl wb w).alloc (by omega) _)).grown hgrow2 (by simp; omega) (fun k hk => by have h1 : g = k := Option.some.inj hk; omega)); clear hown2 hgrow2 hnil2; obtain ⟨p2, n2, c2, rfl⟩ := HO2.out.shape; have d0 : w2.frozen? ⟨wb, 0, none⟩ = false := by have hh := HR2.out; simp [World.frozen?, hh]); have d1 : w2.cell? ⟨wb, 0, none⟩ = some (.slice (some ⟨g, 0, none⟩) xs.length cap) := (cell_row (j := 0) HR2.out).trans rfl))
  go_end0
  exact ⟨rfl, ⟨_, heap_setCell HR2.out _, HO2.out.same (fun g hg => Below.heap_setCell w2 ⟨wb, 0, none⟩ _ g (fun e => by have h1 : g = wb := e; have := (HO2.out.block hg).1; omega))⟩, HB2.out.setCell (Nat.le_refl _) _⟩
theorem encN_byte : ∀ (n q : Nat), q ≤ n → ∀ x ∈ encN q, x < 256
  | n, q, hq, x, hx => by
    by_cases h : 128 ≤ q
    · rw [encN_more h] at hx
      rcases List.mem_cons.1 hx with rfl | hx
      · omega
      · match n, hq with
        | 0, hq => omega
        | n + 1, hq => exact encN_byte n (q / 128) (by omega) x hx
    · rw [encN_last h] at hx
      simp at hx
      omega
theorem encs_byte {f : Int → List Nat} (hf : ∀ z, ∀ x ∈ f z, x < 256) (zs : List Int) : ∀ x ∈ encs f zs, x < 256 := fun x hx => by
  unfold encs at hx
  obtain ⟨l, hl, hx⟩ := List.mem_flatten.1 hx
  obtain ⟨z, _, rfl⟩ := List.mem_map.1 hl
  exact hf z x hx
theorem encU_byte (z : Int) : ∀ x ∈ encU z, x < 256 := encN_byte _ _ (Nat.le_refl _)
theorem encS_byte (z : Int) : ∀ x ∈ encS z, x < 256 := encN_byte _ _ (Nat.le_refl _)
theorem app_byte {a b : List Nat} (ha : ∀ x ∈ a, x < 256) (hb : ∀ x ∈ b, x < 256) : ∀ x ∈ a ++ b, x < 256 := fun x hx => (List.mem_append.1 hx).elim (ha x) (hb x)
theorem encPs_byte : ∀ (l : Int) (P : List Pt), ∀ x ∈ encPs l P, x < 256
  | _, [] => fun x hx => by simp [encPs] at hx
  | l, p :: P => app_byte (app_byte (app_byte (encs_byte encU_byte _) (encs_byte encS_byte _)) (encs_byte encU_byte _)) (encPs_byte p.id P)
theorem encB_byte (t : Tl) : ∀ x ∈ encB t, x < 256 := app_byte (app_byte (encs_byte encU_byte _) (encs_byte encU_byte _)) (encPs_byte _ _)
theorem encB_len {t : Tl} (h : TlOk t) : 0 < (encB t).length ∧ (encB t).length ≤ 90000 := by
  have hk := keyB_yes h.key
  have hl := ((goodL_iff t.pts).1 h.good).1
  have h1 := encPs_len (nums_ok h.good h.asc) t.pts.length (Nat.le_refl _)
  rw [List.take_length] at h1
  have h2 := encs_len (f := encU) (m := 9) [t.key.L, t.key.x, t.key.y, t.key.z] (fun z hz => nat_len (by simp at hz; omega))
  have h3 := encs_len (f := encU) (m := 9) [(t.pts.length : Int)] (fun z hz => nat_len (by simp at hz; omega))
  have h4 := encN_pos t.key.L.toNat
  simp at h2 h3
  unfold encB
  refine ⟨?_, by simp; omega⟩
  have h5 : encs encU [t.key.L, t.key.x, t.key.y, t.key.z] = encN t.key.L.toNat ++ encs encU [t.key.x, t.key.y, t.key.z] := rfl
  rw [h5]
  simp
  omega
set_option maxRecDepth 100000 in
set_option maxHeartbeats 1600000 in
theorem encode_any (k : Ky) (v : Value) (P : List Pt) (w : World) (hp : PtsV w v P) (hT : TlOk ⟨k, P⟩) :
    Calls Try.prog 89 #[.agg #[.int .i64 k.L, .int .i64 k.x, .int .i64 k.y, .int .i64 k.z, v]] w fun e w' => (∃ v', e = .returned v' ∧ OwnB w' w.heap.size v' (encT ⟨k, P⟩)) ∧ Below w.heap.size w w' := by
  have HP := hid hp
  have HT := hid hT
  have HN := hid (nums_ok hT.good hT.asc)
  have HL := hid (((goodL_iff P).1 hT.good).1)
  have hk := keyB_yes hT.key
  obtain ⟨kL, kx, ky, kz⟩ := k
  simp only at hk
  obtain ⟨a, cap, rfl, hpd⟩ := hp
  generalize hnl : P.length = n at *
  have HNL := hid hnl
  clear hT hpd hnl
  go_enter Try.func89, Try.ntmps89
  go_wp2_with fail
  have HW0 := hid (show WrAt (((w.alloc (.cells #[.int .i64 kL, .int .i64 kx, .int .i64 ky, .int .i64 kz, .slice a n cap] 49)).alloc (.cells #[.slice none 0 0] 154)).alloc (.cells #[.int .i64 kL, .int .i64 kx, .int .i64 ky, .int .i64 kz] 3)) (w.heap.size + 1) [] from
    ⟨_, heap_alloc_past _ _ _ _ (heap_alloc_at _ _ _ (by simp)), OwnB.nil _ _⟩)
  refine (wNumber_any (w.heap.size + 1) (w.heap.size + 1 + 1) 0 4 4 [kL, kx, ky, kz] [] _ HW0.out (by simp) (by simp; omega) rfl (by omega) (row_new (zs := [kL, kx, ky, kz]) (by simp) rfl rfl) (by simp) (by omega)).mono ?_
  rintro r w1 ⟨rfl, hw1, ho1⟩
  have HW1 := hid hw1
  have HB1 := hid ((show Below w.heap.size w _ from (by repeat' (first | (with_reducible exact Below.refl _ _) | (with_reducible assumption) | (with_reducible refine Below.alloc ?_ ?_ _) | (with_reducible refine Below.drew ?_) | (with_reducible refine below_drewN ?_ _) | go_size))).trans (ho1.below (B := w.heap.size) (by omega) (by simp; omega)))
  have HT1 := hid (show w1.heap[w.heap.size]? = some (.cells #[.int .i64 kL, .int .i64 kx, .int .i64 ky, .int .i64 kz, .slice a n cap] 49) from ho1.heap (by omega) (heap_alloc_past _ _ _ _ (heap_alloc_past _ _ _ _ (heap_alloc_at _ _ _ rfl))))
  have hz1 := ho1.size
  simp at hz1
  clear hw1 ho1 HW0
  have b4 : w1.cell? ⟨w.heap.size, 4, none⟩ = some (.slice a n cap) := (cell_row (j := 4) HT1.out).trans rfl
  go_wp2_with fail
  clear b4
  refine (wPoints_any (w.heap.size + 1) (.slice a n cap) P _ w w1 HW1.out (by
    have := encs_len (f := encU) (m := 9) [kL, kx, ky, kz] (fun z hz => nat_len (by simp at hz; omega))
    simp at this ⊢; omega) HP.out HB1.out (by omega) HN.out (by rw [HNL.out]; exact HL.out)).mono ?_
  rintro r w2 ⟨rfl, hw2, ho2⟩
  rw [HNL.out] at hw2
  have HW2 := hid (show WrAt w2 (w.heap.size + 1) (encB ⟨⟨kL, kx, ky, kz⟩, P⟩) by
    unfold encB
    simp only [HNL.out]
    exact hw2)
  have HB2 := hid (HB1.out.trans (ho2.below (B := w.heap.size) (by omega) (by omega)))
  have hz2 := ho2.size
  clear hw2 ho2
  go_wp2_with fail
  have hbl := encB_len HT.out
  refine (wSum_any (w.heap.size + 1) _ w2 HW2.out hbl.1 (by omega) (encB_byte _)).mono ?_
  rintro r w3 ⟨rfl, hw3, hb3⟩
  have HB3 := hid (HB2.out.trans (hb3.mono (by omega : w.heap.size ≤ w.heap.size + 1)))
  obtain ⟨v3, hr3, ho3⟩ := hw3
  obtain ⟨p3, n3, c3, rfl⟩ := ho3.shape
  have HO3 := hid (ho3.base (show w.heap.size ≤ w.heap.size + 1 + 1 by omega))
  have d0 : w3.cell? ⟨w.heap.size + 1, 0, none⟩ = some (.slice p3 n3 c3) := (cell_row (j := 0) hr3).trans rfl
  clear hb3 hr3 ho3
  go_wp2_with fail
  go_ret
  exact ⟨⟨_, rfl, HO3.out⟩, HB3.out⟩
/-- what Encode returns: the bytes, or the refusal -/
def EncRes (B : Nat) (t : Tl) (r : Ending) (w' : World) : Prop :=
  (TlOk t ∧ ∃ v, r = .returned (.tuple #[v, .int .i64 0]) ∧ OwnB w' B v (encT t)) ∨ (¬ TlOk t ∧ r = .returned (.tuple #[.slice none 0 0, .int .i64 81]))
set_option maxRecDepth 100000 in
theorem xEncode_any (k : Ky) (v : Value) (P : List Pt) (w : World) (hp : PtsV w v P) (hl : P.length ≤ maxLen) :
    Calls Try.prog 46 #[.agg #[.int .i64 k.L, .int .i64 k.x, .int .i64 k.y, .int .i64 k.z, v]] w fun e w' => EncRes w.heap.size ⟨k, P⟩ e w' ∧ Below w.heap.size w w' := by
  have HP := hid hp
  have HL := hid hl
  obtain ⟨a, cap, rfl, hpd⟩ := hp
  generalize hnl : P.length = n at *
  have HNL := hid hnl
  by_cases hT : TlOk ⟨k, P⟩
  · have HT := hid hT
    have HD := hid (decide_eq_true hT)
    obtain ⟨kL, kx, ky, kz⟩ := k
    clear hT hpd hnl hl
    go_enter Try.func46, Try.ntmps46
    go_wp2_with fail
    refine (xtile_any ⟨kL, kx, ky, kz⟩ (.slice a n cap) P _ (HP.out.still ((Below.refl _ _).alloc (Nat.le_refl _) _)) (by rw [HNL.out]; exact HL.out)).mono ?_
    rintro r w1 ⟨rfl, hb1⟩
    rw [HD.out]
    have HB1 := hid ((show Below w.heap.size w _ from (by repeat' (first | (with_reducible exact Below.refl _ _) | (with_reducible assumption) | (with_reducible refine Below.alloc ?_ ?_ _) | (with_reducible refine Below.drew ?_) | (with_reducible refine below_drewN ?_ _) | go_size))).trans (hb1.mono (by simp)))
    have HT1 := hid (heap_still hb1 (heap_alloc_at w (.cells #[.int .i64 kL, .int .i64 kx, .int .i64 ky, .int .i64 kz, .slice a n cap] 49) _ rfl))
    have hz1 := HB1.out.size
    clear hb1
    have b0 : w1.cell? ⟨w.heap.size, 0, none⟩ = some (.int .i64 kL) := (cell_row (j := 0) HT1.out).trans rfl
    have b1 : w1.cell? ⟨w.heap.size, 1, none⟩ = some (.int .i64 kx) := (cell_row (j := 1) HT1.out).trans rfl
    have b2 : w1.cell? ⟨w.heap.size, 2, none⟩ = some (.int .i64 ky) := (cell_row (j := 2) HT1.out).trans rfl
    have b3 : w1.cell? ⟨w.heap.size, 3, none⟩ = some (.int .i64 kz) := (cell_row (j := 3) HT1.out).trans rfl
    have b4 : w1.cell? ⟨w.heap.size, 4, none⟩ = some (.slice a n cap) := (cell_row (j := 4) HT1.out).trans rfl
    go_wp2_with fail
    clear b0 b1 b2 b3 b4
    refine (encode_any ⟨kL, kx, ky, kz⟩ (.slice a n cap) P w1 (HP.out.still HB1.out) HT.out).mono ?_
    rintro r w2 ⟨⟨v2, rfl, ho2⟩, hb2⟩
    have HO2 := hid (ho2.base hz1)
    have HB2 := hid (HB1.out.trans (hb2.mono hz1))
    clear ho2 hb2
    go_wp2_with fail
    go_ret2
    exact ⟨Or.inl ⟨HT.out, _, rfl, HO2.out⟩, HB2.out⟩
  · have HT := hid hT
    have HD := hid (decide_eq_false hT)
    obtain ⟨kL, kx, ky, kz⟩ := k
    clear hT hpd hnl hl
    go_enter Try.func46, Try.ntmps46
    go_wp2_with fail
    refine (xtile_any ⟨kL, kx, ky, kz⟩ (.slice a n cap) P _ (HP.out.still ((Below.refl _ _).alloc (Nat.le_refl _) _)) (by rw [HNL.out]; exact HL.out)).mono ?_
    rintro r w1 ⟨rfl, hb1⟩
    rw [HD.out]
    have HB1 := hid ((show Below w.heap.size w _ from (by repeat' (first | (with_reducible exact Below.refl _ _) | (with_reducible assumption) | (with_reducible refine Below.alloc ?_ ?_ _) | (with_reducible refine Below.drew ?_) | (with_reducible refine below_drewN ?_ _) | go_size))).trans (hb1.mono (by simp)))
    clear hb1
    go_wp2_with fail
    go_ret2
    exact ⟨Or.inr ⟨HT.out, rfl⟩, HB1.out⟩
end Go.Proofs.Yteanlcefdoigcaa
