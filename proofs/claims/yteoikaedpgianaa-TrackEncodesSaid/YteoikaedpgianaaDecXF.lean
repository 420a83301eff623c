/- A fix read by the program. -/
import Derived.Test.YteoikaedpgianaaDecX
import Derived.Deep.MidRow
namespace Go.Proofs.Yteoikaedpgianaa
open Go.RowKit

theorem there_row {W : World} {b o n t : Nat} {C : Array Value} (h : W.heap[b]? = some (.cells C t)) (hn : o + n ≤ C.size) : W.there b o n := by
  intro j hj
  constructor
  · simp [World.cell?, h]; omega
  · simp [World.frozen?, h]
theorem wpList_store_part {P : Program} {ops : Array Oper} {rest : List Oper} {op : Oper} {a : Act} {w : World} {Q : Exit → Act → World → Prop} (hgd : op.guard = none) (ty : TypeId) (x y : Operand) (ho : op.op = .store ty x y)
    (b o : Nat) (cells : Array Value) (hx : a.eval x = .pointer (some ⟨b, o, none⟩)) (hy : a.eval y = .agg cells)
    {C : Array Value} {t : TypeId} (hC : w.heap[b]? = some (.cells C t)) (hn : o + cells.size ≤ C.size) (hi : (P.info? ty).map (·.size) = some cells.size) (h1 : cells.toList.all (·.oneCell') = true)
    (h : ∀ W', W' = w.setCells b o cells.toList → wpList P ops Q rest (a.put op.dst undef) W') : wpList P ops Q (op :: rest) a w :=
  wpList_store_mid hgd ty x y ho b o cells hx hy (there_row hC hn) hi (by rw [← Array.all_toList]; exact h1) (h _ rfl)
theorem only_setCells {w0 : World} {rb B b : Nat} (hb : B ≤ b) : ∀ (vs : List Value) (o : Nat) (w : World), Only rb B w0 w → Only rb B w0 (w.setCells b o vs)
  | [], _, _, h => h
  | v :: vs, o, _, h => only_setCells hb vs (o + 1) _ (h.set hb v)
theorem rd_setCells {rb ty b g : Nat} {s : St} (h1 : rb ≠ g) (h2 : b ≠ g) : ∀ (vs : List Value) (o : Nat) (w : World), RdAt w rb ty b s → RdAt (w.setCells g o vs) rb ty b s
  | [], _, _, h => h
  | v :: vs, o, _, h => rd_setCells h1 h2 vs (o + 1) _ (h.set h1 h2 v)
theorem heap_setCells_other {n g : Nat} {x : Obj} (hne : n ≠ g) : ∀ (vs : List Value) (o : Nat) (w : World), w.heap[n]? = some x → (w.setCells g o vs).heap[n]? = some x
  | [], _, _, h => h
  | v :: vs, o, _, h => heap_setCells_other hne vs (o + 1) _ (heap_set_other h hne v)
def setL (C : Array Value) : Nat → List Value → Array Value
  | _, [] => C
  | o, v :: vs => setL (C.setIfInBounds o v) (o + 1) vs
theorem heap_setCells {g t : Nat} : ∀ (vs : List Value) (o : Nat) (w : World) (C : Array Value), w.heap[g]? = some (.cells C t) → (w.setCells g o vs).heap[g]? = some (.cells (setL C o vs) t)
  | [], _, _, _, h => h
  | v :: vs, o, _, _, h => heap_setCells vs (o + 1) _ _ (heap_setCell h v)
theorem size_setCells {g : Nat} : ∀ (vs : List Value) (o : Nat) (w : World), (w.setCells g o vs).heap.size = w.heap.size
  | [], _, _ => rfl
  | v :: vs, o, w => (size_setCells vs (o + 1) _).trans (by simp)

set_option maxRecDepth 100000 in
set_option maxHeartbeats 3200000 in
theorem decodeFix (b off n c : Nat) (g : Nat → Nat) (s0 s1 s2 s3 s4 s5 s6 s7 s8 s9 s10 : St) (v0 v1 v2 v3 v4 v5 v6 v7 v8 v9 : Int) (w : World) (hn : 0 < n) (hnc : n ≤ c) (hc : c ≤ 9223372036854775807) (hb : bytesAt w b off n g) (hg : ∀ i, g i < 256) (hbw : b < w.heap.size) (hg0 : g 0 = 0)
    (hs0 : s0 = stOf g n)
    (e0 : nextS false s0 = (v0, s1))
    (e1 : nextS true s1 = (v1, s2))
    (e2 : nextS true s2 = (v2, s3))
    (e3 : nextS true s3 = (v3, s4))
    (e4 : nextS false s4 = (v4, s5))
    (e5 : nextS true s5 = (v5, s6))
    (e6 : nextS true s6 = (v6, s7))
    (e7 : nextS true s7 = (v7, s8))
    (e8 : nextS true s8 = (v8, s9))
    (e9 : nextS false s9 = (v9, s10)) :
    Calls Try.prog 45 #[.slice (some ⟨b, off, none⟩) n c] w fun r w' => r = .returned (if (s10.bad = false ∧ s10.m = 0) ∧ fixB v0 v1 v2 v3 v4 v5 v6 v7 v8 v9 = true then fixNav v0 v1 v2 v3 v4 v5 v6 v7 v8 v9 else noNav) ∧ Below w.heap.size w w' := by
  subst hs0
  obtain ⟨res, hres⟩ : ∃ res, res = (if (s10.bad = false ∧ s10.m = 0) ∧ fixB v0 v1 v2 v3 v4 v5 v6 v7 v8 v9 = true then fixNav v0 v1 v2 v3 v4 v5 v6 v7 v8 v9 else noNav) := ⟨_, rfl⟩
  rw [← hres]
  have HRES := hid hres
  clear hres
  have E0 := hid e0
  have E1 := hid e1
  have E2 := hid e2
  have E3 := hid e3
  have E4 := hid e4
  have E5 := hid e5
  have E6 := hid e6
  have E7 := hid e7
  have E8 := hid e8
  have E9 := hid e9
  have hnz : ((n : Int) == 0) = false := by simp; omega
  have hc0 : w.cell? ⟨b, off, none⟩ = some (.int .u8 0) := by have := hb 0 hn; rw [hg0] at this; exact this
  have hca : ∀ o1 o2 o3, (((w.alloc o1).alloc o2).alloc o3).cell? ⟨b, off, none⟩ = some (.int .u8 0) := fun _ _ _ => cell_past (cell_past (cell_past hc0))
  have HB := hid hb
  have HG := hid hg
  clear e0 e1 e2 e3 e4 e5 e6 e7 e8 e9 hb hg hg0
  by_cases hc1 : 1 < c
  · go_enter Try.func45, Try.ntmps45
    go_wp2_with fail
    have hm1 : (stOf g n).m ≤ c - 1 := by show n - 1 ≤ c - 1; omega
    refine Calls.mono (fix_any (w.heap.size + 1 + 1) b _ s1 s2 s3 s4 s5 s6 s7 s8 s9 s10 v0 v1 v2 v3 v4 v5 v6 v7 v8 v9 _ ⟨off + 1, c - 1, (by repeat' (first | (refine heap_alloc_at _ _ _ ?_; (first | rfl | (simp; done) | (simp; omega))) | (refine heap_alloc_past _ _ _ _ ?_))), hm1, by omega, cells_tail HB.out hbw (by (repeat' (first | (with_reducible exact Below.refl _ _) | (with_reducible assumption) | (with_reducible refine Below.alloc ?_ ?_ _) | (with_reducible refine Below.drew ?_) | (with_reducible refine below_drewN ?_ _) | (with_reducible refine Below.setCell ?_ ?_ _) | (with_reducible refine below_setRow ?_ ?_ _) | go_size))), by omega, fun i => HG.out (i + 1), (by first | (simp; done) | (simp; omega))⟩ E0.out E1.out E2.out E3.out E4.out E5.out E6.out E7.out E8.out E9.out) ?_
    rintro r w1 ⟨rfl, hrd, hol⟩
    have R1 := hid hrd
    have F1 := hid (hol.heap (by omega) (by repeat' (first | (refine heap_alloc_at _ _ _ ?_; (first | rfl | (simp; done) | (simp; omega))) | (refine heap_alloc_past _ _ _ _ ?_))) : w1.heap[w.heap.size + 1]? = some (.cells #[.bool false, .int .i64 0, .int .i64 0, .int .i64 0, .int .i64 0, .int .i64 0, .int .i64 0, .int .i64 0, .int .i64 0, .int .i64 0, .int .i64 0, .int .i64 0, .int .i64 0, .int .i64 0] 59))
    have G1 := hid (hol.heap (by omega) (by repeat' (first | (refine heap_alloc_at _ _ _ ?_; (first | rfl | (simp; done) | (simp; omega))) | (refine heap_alloc_past _ _ _ _ ?_))) : w1.heap[w.heap.size]? = some (.cells #[.bool false, .int .i64 0, .int .i64 0, .int .i64 0, .int .i64 0, .int .i64 0, .int .i64 0, .int .i64 0, .int .i64 0, .int .i64 0, .int .i64 0, .int .i64 0, .int .i64 0, .int .i64 0] 59))
    have O1 := hid ((((((Only.refl (w.heap.size + 1 + 1) w.heap.size w).alloc (by omega) _).alloc (by first | (simp; done) | (simp; omega)) _).alloc (by first | (simp; done) | (simp; omega)) _).trans hol (by first | (simp; done) | (simp; omega))) : Only (w.heap.size + 1 + 1) w.heap.size w w1)
    have hs1 := hol.size
    (try simp at hs1)
    clear hrd hol
    go_wp2_with (refine wpList_store_part rfl 55 (.tmp 40) (.tmp 39) rfl (w.heap.size + 1) 1 _ rfl rfl F1.out (by simp) size55 rfl ?_; intro W2 hW2; have F2 := hid (show W2.heap[w.heap.size + 1]? = some (.cells #[.bool false, .int .i64 v0, .int .i64 v1, .int .i64 v2, .int .i64 v3, .int .i64 v4, .int .i64 v5, .int .i64 v6, .int .i64 v7, .int .i64 v8, .int .i64 v9, .int .i64 0, .int .i64 0, .int .i64 0] 59) by (rw [hW2]; exact (heap_setCells _ _ _ _ F1.out).trans (by kernel_rfl))); have G2 := hid (show W2.heap[w.heap.size]? = some (.cells #[.bool false, .int .i64 0, .int .i64 0, .int .i64 0, .int .i64 0, .int .i64 0, .int .i64 0, .int .i64 0, .int .i64 0, .int .i64 0, .int .i64 0, .int .i64 0, .int .i64 0, .int .i64 0] 59) by (rw [hW2]; exact heap_setCells_other (by omega) _ _ _ G1.out)); have R2 := hid (show RdAt W2 (w.heap.size + 1 + 1) 145 b s10 by (rw [hW2]; exact rd_setCells (by omega) (by omega) _ _ _ R1.out)); have O2 := hid (show Only (w.heap.size + 1 + 1) w.heap.size w W2 by (rw [hW2]; exact only_setCells (by omega) _ _ _ O1.out)); have hs2 : W2.heap.size = w1.heap.size := (by rw [hW2]; exact size_setCells _ _ _); clear hW2; have k0 : W2.cell? ⟨w.heap.size + 1, 0, none⟩ = some (.bool false) := (cell_row (j := 0) F2.out).trans rfl; have k1 : W2.cell? ⟨w.heap.size + 1, 1, none⟩ = some (.int .i64 v0) := (cell_row (j := 1) F2.out).trans rfl; have k2 : W2.cell? ⟨w.heap.size + 1, 2, none⟩ = some (.int .i64 v1) := (cell_row (j := 2) F2.out).trans rfl; have k3 : W2.cell? ⟨w.heap.size + 1, 3, none⟩ = some (.int .i64 v2) := (cell_row (j := 3) F2.out).trans rfl; have k4 : W2.cell? ⟨w.heap.size + 1, 4, none⟩ = some (.int .i64 v3) := (cell_row (j := 4) F2.out).trans rfl; have k5 : W2.cell? ⟨w.heap.size + 1, 5, none⟩ = some (.int .i64 v4) := (cell_row (j := 5) F2.out).trans rfl; have k6 : W2.cell? ⟨w.heap.size + 1, 6, none⟩ = some (.int .i64 v5) := (cell_row (j := 6) F2.out).trans rfl; have k7 : W2.cell? ⟨w.heap.size + 1, 7, none⟩ = some (.int .i64 v6) := (cell_row (j := 7) F2.out).trans rfl; have k8 : W2.cell? ⟨w.heap.size + 1, 8, none⟩ = some (.int .i64 v7) := (cell_row (j := 8) F2.out).trans rfl; have k9 : W2.cell? ⟨w.heap.size + 1, 9, none⟩ = some (.int .i64 v8) := (cell_row (j := 9) F2.out).trans rfl; have k10 : W2.cell? ⟨w.heap.size + 1, 10, none⟩ = some (.int .i64 v9) := (cell_row (j := 10) F2.out).trans rfl)
    refine (xFix_any v0 v1 v2 v3 v4 v5 v6 v7 v8 v9 _).mono ?_
    rintro r w5 ⟨rfl, hb5⟩
    have F5 := hid (heap_still hb5 F2.out)
    have G5 := hid (heap_still hb5 G2.out)
    have O5 := hid (O2.out.trans (Only.of_below hb5) (by omega))
    have hs5 := hb5.size
    obtain ⟨o5, c5, hr5, hm5, hcc5, _⟩ := rd_still R2.out hb5
    have HR5 := hid hr5
    have p0 : w5.cell? ⟨w.heap.size + 1 + 1, 0, none⟩ = some (.slice (some ⟨b, o5, none⟩) s10.m c5) := (cell_row (j := 0) hr5).trans rfl
    have p1 : w5.cell? ⟨w.heap.size + 1 + 1, 1, none⟩ = some (.bool s10.bad) := (cell_row (j := 1) hr5).trans rfl
    have p2 : w5.cell? ⟨w.heap.size + 1, 0, none⟩ = some (.bool false) := (cell_row (j := 0) F5.out).trans rfl
    clear hb5 hr5 k0 k1 k2 k3 k4 k5 k6 k7 k8 k9 k10
    generalize s10.bad = bad at *
    generalize s10.m = mm at *
    generalize fixB v0 v1 v2 v3 v4 v5 v6 v7 v8 v9 = sy at *
    cases bad
    · rcases Nat.eq_zero_or_pos mm with rfl | hmm
      · cases sy
        · go_wp2_with (refine wpList_store_at rfl 59 (.tmp 2) (.tmp 65) rfl rfl rfl G5.out size59a rfl rfl rfl ?_)
          refine bodyPost_ret (results_at2 rfl rfl (setRow_heap _ _ _ _ _ _ G5.out) Try.underlying59 rfl size59a rfl) rfl ?_
          exact ⟨by rw [HRES.out, if_neg (by first | (simp; done) | (intro h; omega))]; rfl, (O5.out.setRow (by omega)).below' (by omega)⟩
        · go_wp2_with (first | (refine wpList_load_at rfl 59 (.tmp 4) rfl rfl F5.out Try.underlying59 rfl size59a rfl ?_) | (refine wpList_store_at rfl 59 (.tmp 2) (.tmp 66) rfl rfl rfl G5.out size59a rfl rfl rfl ?_))
          refine bodyPost_ret (results_at2 rfl rfl (setRow_heap _ _ _ _ _ _ G5.out) Try.underlying59 rfl size59a rfl) rfl ?_
          exact ⟨by rw [HRES.out, if_pos (by simp)]; rfl, (O5.out.setRow (by omega)).below' (by omega)⟩
      · cases sy
        · go_wp2_with (refine wpList_store_at rfl 59 (.tmp 2) (.tmp 65) rfl rfl rfl G5.out size59a rfl rfl rfl ?_)
          refine bodyPost_ret (results_at2 rfl rfl (setRow_heap _ _ _ _ _ _ G5.out) Try.underlying59 rfl size59a rfl) rfl ?_
          exact ⟨by rw [HRES.out, if_neg (by first | (simp; done) | (intro h; omega))]; rfl, (O5.out.setRow (by omega)).below' (by omega)⟩
        · go_wp2_with (refine wpList_store_at rfl 59 (.tmp 2) (.tmp 65) rfl rfl rfl G5.out size59a rfl rfl rfl ?_)
          refine bodyPost_ret (results_at2 rfl rfl (setRow_heap _ _ _ _ _ _ G5.out) Try.underlying59 rfl size59a rfl) rfl ?_
          exact ⟨by rw [HRES.out, if_neg (by first | (simp; done) | (intro h; omega))]; rfl, (O5.out.setRow (by omega)).below' (by omega)⟩
    · cases sy
      · go_wp2_with (refine wpList_store_at rfl 59 (.tmp 2) (.tmp 65) rfl rfl rfl G5.out size59a rfl rfl rfl ?_)
        refine bodyPost_ret (results_at2 rfl rfl (setRow_heap _ _ _ _ _ _ G5.out) Try.underlying59 rfl size59a rfl) rfl ?_
        exact ⟨by rw [HRES.out, if_neg (by first | (simp; done) | (intro h; omega))]; rfl, (O5.out.setRow (by omega)).below' (by omega)⟩
      · go_wp2_with (refine wpList_store_at rfl 59 (.tmp 2) (.tmp 65) rfl rfl rfl G5.out size59a rfl rfl rfl ?_)
        refine bodyPost_ret (results_at2 rfl rfl (setRow_heap _ _ _ _ _ _ G5.out) Try.underlying59 rfl size59a rfl) rfl ?_
        exact ⟨by rw [HRES.out, if_neg (by first | (simp; done) | (intro h; omega))]; rfl, (O5.out.setRow (by omega)).below' (by omega)⟩
  · obtain rfl : n = 1 := by omega
    obtain rfl : c = 1 := by omega
    go_enter Try.func45, Try.ntmps45
    go_wp2_with fail
    have hm1 : (stOf g 1).m ≤ 0 := by show 1 - 1 ≤ 0; omega
    refine Calls.mono (fix_any (w.heap.size + 1 + 1) b _ s1 s2 s3 s4 s5 s6 s7 s8 s9 s10 v0 v1 v2 v3 v4 v5 v6 v7 v8 v9 _ ⟨off, 0, (by repeat' (first | (refine heap_alloc_at _ _ _ ?_; (first | rfl | (simp; done) | (simp; omega))) | (refine heap_alloc_past _ _ _ _ ?_))), hm1, by omega, (fun i hi => absurd (show i < 0 from hi) (by omega)), by omega, fun i => HG.out (i + 1), (by first | (simp; done) | (simp; omega))⟩ E0.out E1.out E2.out E3.out E4.out E5.out E6.out E7.out E8.out E9.out) ?_
    rintro r w1 ⟨rfl, hrd, hol⟩
    have R1 := hid hrd
    have F1 := hid (hol.heap (by omega) (by repeat' (first | (refine heap_alloc_at _ _ _ ?_; (first | rfl | (simp; done) | (simp; omega))) | (refine heap_alloc_past _ _ _ _ ?_))) : w1.heap[w.heap.size + 1]? = some (.cells #[.bool false, .int .i64 0, .int .i64 0, .int .i64 0, .int .i64 0, .int .i64 0, .int .i64 0, .int .i64 0, .int .i64 0, .int .i64 0, .int .i64 0, .int .i64 0, .int .i64 0, .int .i64 0] 59))
    have G1 := hid (hol.heap (by omega) (by repeat' (first | (refine heap_alloc_at _ _ _ ?_; (first | rfl | (simp; done) | (simp; omega))) | (refine heap_alloc_past _ _ _ _ ?_))) : w1.heap[w.heap.size]? = some (.cells #[.bool false, .int .i64 0, .int .i64 0, .int .i64 0, .int .i64 0, .int .i64 0, .int .i64 0, .int .i64 0, .int .i64 0, .int .i64 0, .int .i64 0, .int .i64 0, .int .i64 0, .int .i64 0] 59))
    have O1 := hid ((((((Only.refl (w.heap.size + 1 + 1) w.heap.size w).alloc (by omega) _).alloc (by first | (simp; done) | (simp; omega)) _).alloc (by first | (simp; done) | (simp; omega)) _).trans hol (by first | (simp; done) | (simp; omega))) : Only (w.heap.size + 1 + 1) w.heap.size w w1)
    have hs1 := hol.size
    (try simp at hs1)
    clear hrd hol
    go_wp2_with (refine wpList_store_part rfl 55 (.tmp 40) (.tmp 39) rfl (w.heap.size + 1) 1 _ rfl rfl F1.out (by simp) size55 rfl ?_; intro W2 hW2; have F2 := hid (show W2.heap[w.heap.size + 1]? = some (.cells #[.bool false, .int .i64 v0, .int .i64 v1, .int .i64 v2, .int .i64 v3, .int .i64 v4, .int .i64 v5, .int .i64 v6, .int .i64 v7, .int .i64 v8, .int .i64 v9, .int .i64 0, .int .i64 0, .int .i64 0] 59) by (rw [hW2]; exact (heap_setCells _ _ _ _ F1.out).trans (by kernel_rfl))); have G2 := hid (show W2.heap[w.heap.size]? = some (.cells #[.bool false, .int .i64 0, .int .i64 0, .int .i64 0, .int .i64 0, .int .i64 0, .int .i64 0, .int .i64 0, .int .i64 0, .int .i64 0, .int .i64 0, .int .i64 0, .int .i64 0, .int .i64 0] 59) by (rw [hW2]; exact heap_setCells_other (by omega) _ _ _ G1.out)); have R2 := hid (show RdAt W2 (w.heap.size + 1 + 1) 145 b s10 by (rw [hW2]; exact rd_setCells (by omega) (by omega) _ _ _ R1.out)); have O2 := hid (show Only (w.heap.size + 1 + 1) w.heap.size w W2 by (rw [hW2]; exact only_setCells (by omega) _ _ _ O1.out)); have hs2 : W2.heap.size = w1.heap.size := (by rw [hW2]; exact size_setCells _ _ _); clear hW2; have k0 : W2.cell? ⟨w.heap.size + 1, 0, none⟩ = some (.bool false) := (cell_row (j := 0) F2.out).trans rfl; have k1 : W2.cell? ⟨w.heap.size + 1, 1, none⟩ = some (.int .i64 v0) := (cell_row (j := 1) F2.out).trans rfl; have k2 : W2.cell? ⟨w.heap.size + 1, 2, none⟩ = some (.int .i64 v1) := (cell_row (j := 2) F2.out).trans rfl; have k3 : W2.cell? ⟨w.heap.size + 1, 3, none⟩ = some (.int .i64 v2) := (cell_row (j := 3) F2.out).trans rfl; have k4 : W2.cell? ⟨w.heap.size + 1, 4, none⟩ = some (.int .i64 v3) := (cell_row (j := 4) F2.out).trans rfl; have k5 : W2.cell? ⟨w.heap.size + 1, 5, none⟩ = some (.int .i64 v4) := (cell_row (j := 5) F2.out).trans rfl; have k6 : W2.cell? ⟨w.heap.size + 1, 6, none⟩ = some (.int .i64 v5) := (cell_row (j := 6) F2.out).trans rfl; have k7 : W2.cell? ⟨w.heap.size + 1, 7, none⟩ = some (.int .i64 v6) := (cell_row (j := 7) F2.out).trans rfl; have k8 : W2.cell? ⟨w.heap.size + 1, 8, none⟩ = some (.int .i64 v7) := (cell_row (j := 8) F2.out).trans rfl; have k9 : W2.cell? ⟨w.heap.size + 1, 9, none⟩ = some (.int .i64 v8) := (cell_row (j := 9) F2.out).trans rfl; have k10 : W2.cell? ⟨w.heap.size + 1, 10, none⟩ = some (.int .i64 v9) := (cell_row (j := 10) F2.out).trans rfl)
    refine (xFix_any v0 v1 v2 v3 v4 v5 v6 v7 v8 v9 _).mono ?_
    rintro r w5 ⟨rfl, hb5⟩
    have F5 := hid (heap_still hb5 F2.out)
    have G5 := hid (heap_still hb5 G2.out)
    have O5 := hid (O2.out.trans (Only.of_below hb5) (by omega))
    have hs5 := hb5.size
    obtain ⟨o5, c5, hr5, hm5, hcc5, _⟩ := rd_still R2.out hb5
    have HR5 := hid hr5
    have p0 : w5.cell? ⟨w.heap.size + 1 + 1, 0, none⟩ = some (.slice (some ⟨b, o5, none⟩) s10.m c5) := (cell_row (j := 0) hr5).trans rfl
    have p1 : w5.cell? ⟨w.heap.size + 1 + 1, 1, none⟩ = some (.bool s10.bad) := (cell_row (j := 1) hr5).trans rfl
    have p2 : w5.cell? ⟨w.heap.size + 1, 0, none⟩ = some (.bool false) := (cell_row (j := 0) F5.out).trans rfl
    clear hb5 hr5 k0 k1 k2 k3 k4 k5 k6 k7 k8 k9 k10
    generalize s10.bad = bad at *
    generalize s10.m = mm at *
    generalize fixB v0 v1 v2 v3 v4 v5 v6 v7 v8 v9 = sy at *
    cases bad
    · rcases Nat.eq_zero_or_pos mm with rfl | hmm
      · cases sy
        · go_wp2_with (refine wpList_store_at rfl 59 (.tmp 2) (.tmp 65) rfl rfl rfl G5.out size59a rfl rfl rfl ?_)
          refine bodyPost_ret (results_at2 rfl rfl (setRow_heap _ _ _ _ _ _ G5.out) Try.underlying59 rfl size59a rfl) rfl ?_
          exact ⟨by rw [HRES.out, if_neg (by first | (simp; done) | (intro h; omega))]; rfl, (O5.out.setRow (by omega)).below' (by omega)⟩
        · go_wp2_with (first | (refine wpList_load_at rfl 59 (.tmp 4) rfl rfl F5.out Try.underlying59 rfl size59a rfl ?_) | (refine wpList_store_at rfl 59 (.tmp 2) (.tmp 66) rfl rfl rfl G5.out size59a rfl rfl rfl ?_))
          refine bodyPost_ret (results_at2 rfl rfl (setRow_heap _ _ _ _ _ _ G5.out) Try.underlying59 rfl size59a rfl) rfl ?_
          exact ⟨by rw [HRES.out, if_pos (by simp)]; rfl, (O5.out.setRow (by omega)).below' (by omega)⟩
      · cases sy
        · go_wp2_with (refine wpList_store_at rfl 59 (.tmp 2) (.tmp 65) rfl rfl rfl G5.out size59a rfl rfl rfl ?_)
          refine bodyPost_ret (results_at2 rfl rfl (setRow_heap _ _ _ _ _ _ G5.out) Try.underlying59 rfl size59a rfl) rfl ?_
          exact ⟨by rw [HRES.out, if_neg (by first | (simp; done) | (intro h; omega))]; rfl, (O5.out.setRow (by omega)).below' (by omega)⟩
        · go_wp2_with (refine wpList_store_at rfl 59 (.tmp 2) (.tmp 65) rfl rfl rfl G5.out size59a rfl rfl rfl ?_)
          refine bodyPost_ret (results_at2 rfl rfl (setRow_heap _ _ _ _ _ _ G5.out) Try.underlying59 rfl size59a rfl) rfl ?_
          exact ⟨by rw [HRES.out, if_neg (by first | (simp; done) | (intro h; omega))]; rfl, (O5.out.setRow (by omega)).below' (by omega)⟩
    · cases sy
      · go_wp2_with (refine wpList_store_at rfl 59 (.tmp 2) (.tmp 65) rfl rfl rfl G5.out size59a rfl rfl rfl ?_)
        refine bodyPost_ret (results_at2 rfl rfl (setRow_heap _ _ _ _ _ _ G5.out) Try.underlying59 rfl size59a rfl) rfl ?_
        exact ⟨by rw [HRES.out, if_neg (by first | (simp; done) | (intro h; omega))]; rfl, (O5.out.setRow (by omega)).below' (by omega)⟩
      · go_wp2_with (refine wpList_store_at rfl 59 (.tmp 2) (.tmp 65) rfl rfl rfl G5.out size59a rfl rfl rfl ?_)
        refine bodyPost_ret (results_at2 rfl rfl (setRow_heap _ _ _ _ _ _ G5.out) Try.underlying59 rfl size59a rfl) rfl ?_
        exact ⟨by rw [HRES.out, if_neg (by first | (simp; done) | (intro h; omega))]; rfl, (O5.out.setRow (by omega)).below' (by omega)⟩
end Go.Proofs.Yteoikaedpgianaa
