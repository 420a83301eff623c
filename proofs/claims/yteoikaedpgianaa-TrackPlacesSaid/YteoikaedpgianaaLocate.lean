/- The program's Locate: the box of a point at a range from a pose. -/
import Derived.Test.YteoikaedpgianaaRefused
import Derived.Test.YteoikaedpgianaaPart
import Derived.Test.YteoikaedpgianaaTurnM
namespace Go.Proofs.Yteoikaedpgianaa
open Go.RowKit Limb

/-- the lower and the upper end of a coordinate -/
def locLo (k n c r0 r1 wide : Int) : Int := c + dnV k (if k < 0 then r1 else r0) n - wide
def locHi (k n c r0 r1 wide : Int) : Int := c + upV k (if k < 0 then r0 else r1) n + wide
def locOk (lo hi : Int) : Bool := [lo, hi].all (inB (-268435456) 268435456)
/-- the cells of the spans behind m rounds -/
def spA (v0 v1 v2 v3 v4 v5 : Int) : Nat → Array Value
  | 0 => #[.int .i64 0, .int .i64 0, .int .i64 0, .int .i64 0, .int .i64 0, .int .i64 0]
  | 1 => #[.int .i64 v0, .int .i64 v1, .int .i64 0, .int .i64 0, .int .i64 0, .int .i64 0]
  | 2 => #[.int .i64 v0, .int .i64 v1, .int .i64 v2, .int .i64 v3, .int .i64 0, .int .i64 0]
  | _ => #[.int .i64 v0, .int .i64 v1, .int .i64 v2, .int .i64 v3, .int .i64 v4, .int .i64 v5]
/-- whether all three spans lie in the room -/
def locAll (v0 v1 v2 v3 v4 v5 : Int) : Bool := locOk v0 v1 && locOk v2 v3 && locOk v4 v5
/-- what Locate answers -/
def locRes (o : Bool) (v0 v1 v2 v3 v4 v5 : Int) : Value := .tuple #[.agg (bif o then spA v0 v1 v2 v3 v4 v5 3 else spA 0 0 0 0 0 0 0), .int .i64 (bif o then 0 else 3)]
theorem spA_size (v0 v1 v2 v3 v4 v5 : Int) (m : Nat) : (spA v0 v1 v2 v3 v4 v5 m).size = 6 := by
  match m with
  | 0 | 1 | 2 | n + 3 => rfl
theorem spA_next (v0 v1 v2 v3 v4 v5 : Int) {m : Nat} (h : m < 3) : ptL (spA v0 v1 v2 v3 v4 v5 m) (m * 2) [.int .i64 ([v0, v2, v4].getD m 0), .int .i64 ([v1, v3, v5].getD m 0)] = spA v0 v1 v2 v3 v4 v5 (m + 1) := by
  match m, h with
  | 0, _ => rfl
  | 1, _ => rfl
  | 2, _ => rfl
/-- a fresh block of a span -/
def Fresh44 (B : Nat) (W : World) (v : Value) : Prop := ∃ g, v = .pointer (some ⟨g, 0, none⟩) ∧ B ≤ g ∧ W.heap[g]? = some (.cells #[.int .i64 0, .int .i64 0] 44)
theorem Fresh44.stb (B : Nat) : Stb (Fresh44 B) := fun _ _ _ hB ⟨g, h1, h2, h3⟩ => ⟨g, h1, h2, heap_still hB h3⟩
theorem size78 : (Try.prog.info? 78).map (·.size) = some 6 := by kernel_rfl
theorem index78 (x0 x1 y0 y1 z0 z1 : Int) (k : Nat) (hk : k < 3) (W : World) : (Instr.index 78 (.agg #[.int .i64 x0, .int .i64 x1, .int .i64 y0, .int .i64 y1, .int .i64 z0, .int .i64 z1]) (.int .i64 (k : Int))).run Try.prog W = .ok (.agg #[.int .i64 ([x0, y0, z0].getD k 0), .int .i64 ([x1, y1, z1].getD k 0)]) W := by
  match k, hk with
  | 0, _ => exact index78_0 x0 x1 y0 y1 z0 z1 W
  | 1, _ => exact index78_1 x0 x1 y0 y1 z0 z1 W
  | 2, _ => exact index78_2 x0 x1 y0 y1 z0 z1 W
theorem calm {f : FuncId} {a : Array Value} {w : World} {v : Value} (h : Calls Try.prog f a w fun r w' => r = .returned v ∧ ∃ m, w' = w.drewN m) : Calls Try.prog f a w fun r w' => r = .returned v ∧ Below w.heap.size w w' :=
  h.mono fun _ _ ⟨h1, n, h2⟩ => ⟨h1, h2 ▸ below_drewN (Below.refl _ _) n⟩
theorem rot_cell3 {l : List Int} {j : Nat} (h : j < l.length) : ((l.map (Value.int .i64)).toArray)[j]? = some (.int .i64 (l.getD j 0)) := by
  rw [List.getElem?_toArray, List.getElem?_map, List.getElem?_eq_getElem h, List.getD_eq_getElem?_getD, List.getElem?_eq_getElem h]
  rfl
theorem loc_dn {k s n : Int} (hk : -n ≤ k ∧ k ≤ n) (hs : 0 ≤ s) (hs2 : s ≤ 4194304) (hn : 1 ≤ n) : -4194304 ≤ dnV k s n ∧ dnV k s n ≤ 4194304 := by
  by_cases h : 0 ≤ k
  · have := dn_bd h hk.2 hs (show 0 < n by omega)
    omega
  · have := up_bd (k := -k) (by omega) (by omega) hs (show 0 < n by omega)
    rw [up_neg] at this
    omega
theorem loc_up {k s n : Int} (hk : -n ≤ k ∧ k ≤ n) (hs : 0 ≤ s) (hs2 : s ≤ 4194304) (hn : 1 ≤ n) : -4194304 ≤ upV k s n ∧ upV k s n ≤ 4194304 := by
  by_cases h : 0 ≤ k
  · have := up_bd h hk.2 hs (show 0 < n by omega)
    omega
  · have := dn_bd (k := -k) (by omega) (by omega) hs (show 0 < n by omega)
    rw [dn_neg] at this
    omega
theorem loc_bad {o0 o1 o2 : Bool} : ∀ m, m < 3 → [o0, o1, o2].getD m false = false → (o0 && o1 && o2) = false
  | 0, _, h => by simp at h; rw [h]; rfl
  | 1, _, h => by simp at h; rw [h]; simp
  | 2, _, h => by simp at h; rw [h]; simp
theorem ok_at (v0 v1 v2 v3 v4 v5 : Int) : ∀ m, m < 3 → [locOk v0 v1, locOk v2 v3, locOk v4 v5].getD m false = locOk ([v0, v2, v4].getD m 0) ([v1, v3, v5].getD m 0)
  | 0, _ => rfl
  | 1, _ => rfl
  | 2, _ => rfl
set_option maxRecDepth 100000 in
set_option maxHeartbeats 6400000 in
theorem locate_walk (x0 x1 y0 y1 z0 z1 a b c d t e f g h r0 r1 m0 m1 m2 m3 k0 k1 k2 n wide v0 v1 v2 v3 v4 v5 : Int) (w : World) (hok : poseErr x0 x1 y0 y1 z0 z1 a b c d t e f g h r0 r1 = 0)
    (HP : ∀ W, Calls Try.prog 73 #[.agg #[.int .i64 a, .int .i64 b, .int .i64 c, .int .i64 d], .agg #[.int .i64 e, .int .i64 f, .int .i64 g, .int .i64 h]] W fun r w' => r = .returned (.agg #[.int .i64 m0, .int .i64 m1, .int .i64 m2, .int .i64 m3]) ∧ Below W.heap.size W w')
    (HB : ∀ W, Calls Try.prog 76 #[.agg #[.int .i64 m0, .int .i64 m1, .int .i64 m2, .int .i64 m3]] W fun r w' => r = .returned (.tuple #[.agg #[.int .i64 k0, .int .i64 k1, .int .i64 k2], .int .i64 n]) ∧ Below W.heap.size W w')
    (hv : ∀ i, i < 3 → [v0, v2, v4].getD i 0 = locLo ([k0, k1, k2].getD i 0) n ([x0, y0, z0].getD i 0) r0 r1 wide ∧ [v1, v3, v5].getD i 0 = locHi ([k0, k1, k2].getD i 0) n ([x1, y1, z1].getD i 0) r0 r1 wide)
    (hkb : ∀ i, i < 3 → -n ≤ [k0, k1, k2].getD i 0 ∧ [k0, k1, k2].getD i 0 ≤ n) (hn : 1 ≤ n ∧ n ≤ 64000000000000) (hwd : 0 ≤ wide ∧ wide ≤ 9007199256) (hr : (0 ≤ r0 ∧ r0 ≤ 4194304) ∧ (0 ≤ r1 ∧ r1 ≤ 4194304))
    (hc : ∀ i, i < 3 → (-268435456 ≤ [x0, y0, z0].getD i 0 ∧ [x0, y0, z0].getD i 0 ≤ 268435456) ∧ (-268435456 ≤ [x1, y1, z1].getD i 0 ∧ [x1, y1, z1].getD i 0 ≤ 268435456))
    (HW : ∀ W, Calls Try.prog 95 #[.int .i64 t, .int .i64 r1, .int .i64 1000000] W fun r w' => r = .returned (.int .i64 wide) ∧ Below W.heap.size W w') :
    Calls Try.prog 49 #[.agg #[.int .i64 x0, .int .i64 x1, .int .i64 y0, .int .i64 y1, .int .i64 z0, .int .i64 z1, .int .i64 a, .int .i64 b, .int .i64 c, .int .i64 d, .int .i64 t], .agg #[.int .i64 e, .int .i64 f, .int .i64 g, .int .i64 h], .agg #[.int .i64 r0, .int .i64 r1]] w
      fun r w' => r = .returned (locRes (locAll v0 v1 v2 v3 v4 v5) v0 v1 v2 v3 v4 v5) ∧ Below w.heap.size w w' := by
  have HER := hid hok
  have HPR := hid HP
  have HBM := hid HB
  have HWD := hid HW
  have HVV := hid hv
  have HKB := hid hkb
  have HCB := hid hc
  obtain ⟨hn1, hn2⟩ := hn
  obtain ⟨hw1, hw2⟩ := hwd
  obtain ⟨⟨hr1, hr2⟩, hr3, hr4⟩ := hr
  have HBw := hid (Below.refl w.heap.size w)
  clear hok HP HB HW hv hkb hc
  go_enter Try.func49, Try.ntmps49
  go_wp2_with fail
  refine (refused_any _ _ _ _ _ _ _ _ _ _ _ _ _ _ _ _ _ _).mono ?_
  rintro r w1 ⟨rfl, hb⟩
  have HBw1 := hid (show Below w.heap.size w w1 by have hB0 := HBw.out; refine Below.trans ?_ (hb.mono ?_); (focus ((repeat' (first | (with_reducible exact Below.refl _ _) | (with_reducible assumption) | (with_reducible refine Below.alloc ?_ ?_ _) | (with_reducible refine Below.drew ?_) | (with_reducible refine below_drewN ?_ _) | (with_reducible refine Below.setCell ?_ ?_ _) | (with_reducible refine below_setRow ?_ ?_ _) | go_size)); done)); (focus (first | (simp; done) | (simp; omega) | (have hB1 := hB0.size; simp; omega))))
  have hsw1 := hb.size
  (try simp at hsw1)
  have hzw1 : w.heap.size < w1.heap.size := by omega
  obtain ⟨hcw1, hfw1⟩ := bcell hb
  have hkw1 := hid (fun n x => @heap_still _ _ n x hb)
  clear hb
  rw [HER.out]
  have P1 := hid (hkw1.out _ _ (by repeat' (first | (refine heap_alloc_at _ _ _ ?_; (first | rfl | (simp; done) | (simp; omega))) | (refine heap_alloc_past _ _ _ _ ?_))) : w1.heap[w.heap.size]? = some (.cells #[.int .i64 x0, .int .i64 x1, .int .i64 y0, .int .i64 y1, .int .i64 z0, .int .i64 z1, .int .i64 a, .int .i64 b, .int .i64 c, .int .i64 d, .int .i64 t] 80))
  have S1 := hid (hkw1.out _ _ (by repeat' (first | (refine heap_alloc_at _ _ _ ?_; (first | rfl | (simp; done) | (simp; omega))) | (refine heap_alloc_past _ _ _ _ ?_))) : w1.heap[w.heap.size + 1]? = some (row4 e f g h))
  have R1 := hid (hkw1.out _ _ (by repeat' (first | (refine heap_alloc_at _ _ _ ?_; (first | rfl | (simp; done) | (simp; omega))) | (refine heap_alloc_past _ _ _ _ ?_))) : w1.heap[w.heap.size + 1 + 1]? = some (.cells #[.int .i64 r0, .int .i64 r1] 44))
  have B1 := hid (hkw1.out _ _ (by repeat' (first | (refine heap_alloc_at _ _ _ ?_; (first | rfl | (simp; done) | (simp; omega))) | (refine heap_alloc_past _ _ _ _ ?_))) : w1.heap[w.heap.size + 1 + 1 + 1]? = some (.cells #[.int .i64 0, .int .i64 0, .int .i64 0, .int .i64 0, .int .i64 0, .int .i64 0] 46))
  clear hcw1 hfw1
  have q0 : w1.cell? ⟨w.heap.size, 6, none⟩ = some (.int .i64 a) := (cell_row (j := 6) P1.out).trans rfl
  have q1 : w1.cell? ⟨w.heap.size, 7, none⟩ = some (.int .i64 b) := (cell_row (j := 7) P1.out).trans rfl
  have q2 : w1.cell? ⟨w.heap.size, 8, none⟩ = some (.int .i64 c) := (cell_row (j := 8) P1.out).trans rfl
  have q3 : w1.cell? ⟨w.heap.size, 9, none⟩ = some (.int .i64 d) := (cell_row (j := 9) P1.out).trans rfl
  have s0 : w1.cell? ⟨w.heap.size + 1, 0, none⟩ = some (.int .i64 e) := (cell_row (j := 0) S1.out).trans rfl
  have s1 : w1.cell? ⟨w.heap.size + 1, 1, none⟩ = some (.int .i64 f) := (cell_row (j := 1) S1.out).trans rfl
  have s2 : w1.cell? ⟨w.heap.size + 1, 2, none⟩ = some (.int .i64 g) := (cell_row (j := 2) S1.out).trans rfl
  have s3 : w1.cell? ⟨w.heap.size + 1, 3, none⟩ = some (.int .i64 h) := (cell_row (j := 3) S1.out).trans rfl
  go_wp2_with fail
  clear q0 q1 q2 q3 s0 s1 s2 s3
  refine (HPR.out _).mono ?_
  rintro r w2 ⟨rfl, hb⟩
  have HBw2 := hid (show Below w.heap.size w w2 by have hB0 := HBw1.out; refine Below.trans ?_ (hb.mono ?_); (focus ((repeat' (first | (with_reducible exact Below.refl _ _) | (with_reducible assumption) | (with_reducible refine Below.alloc ?_ ?_ _) | (with_reducible refine Below.drew ?_) | (with_reducible refine below_drewN ?_ _) | (with_reducible refine Below.setCell ?_ ?_ _) | (with_reducible refine below_setRow ?_ ?_ _) | go_size)); done)); (focus (first | (simp; done) | (simp; omega) | (have hB1 := hB0.size; simp; omega))))
  have hsw2 := hb.size
  (try simp at hsw2)
  have hzw2 : w.heap.size < w2.heap.size := by omega
  obtain ⟨hcw2, hfw2⟩ := bcell hb
  have hkw2 := hid (fun n x => @heap_still _ _ n x hb)
  clear hb
  have P2 := hid (hkw2.out _ _ P1.out)
  have R2 := hid (hkw2.out _ _ R1.out)
  have B2 := hid (hkw2.out _ _ B1.out)
  clear hcw2 hfw2
  go_wp2_with fail
  refine (HBM.out _).mono ?_
  rintro r w3 ⟨rfl, hb⟩
  have HBw3 := hid (show Below w.heap.size w w3 by have hB0 := HBw2.out; refine Below.trans ?_ (hb.mono ?_); (focus ((repeat' (first | (with_reducible exact Below.refl _ _) | (with_reducible assumption) | (with_reducible refine Below.alloc ?_ ?_ _) | (with_reducible refine Below.drew ?_) | (with_reducible refine below_drewN ?_ _) | (with_reducible refine Below.setCell ?_ ?_ _) | (with_reducible refine below_setRow ?_ ?_ _) | go_size)); done)); (focus (first | (simp; done) | (simp; omega) | (have hB1 := hB0.size; simp; omega))))
  have hsw3 := hb.size
  (try simp at hsw3)
  have hzw3 : w.heap.size < w3.heap.size := by omega
  obtain ⟨hcw3, hfw3⟩ := bcell hb
  have hkw3 := hid (fun n x => @heap_still _ _ n x hb)
  clear hb
  have P3 := hid (hkw3.out _ _ P2.out)
  have R3 := hid (hkw3.out _ _ R2.out)
  have B3 := hid (hkw3.out _ _ B2.out)
  clear hcw3 hfw3
  have hz3 : w.heap.size + 1 + 1 + 1 < w3.heap.size := (Array.getElem?_eq_some_iff.1 B3.out).1
  have t0 : ∀ o, (w3.alloc o).cell? ⟨w.heap.size, 10, none⟩ = some (.int .i64 t) := fun o => (cell_row (j := 10) (heap_alloc_past _ _ _ _ P3.out)).trans rfl
  have t1 : ∀ o, (w3.alloc o).cell? ⟨w.heap.size + 1 + 1, 1, none⟩ = some (.int .i64 r1) := fun o => (cell_row (j := 1) (heap_alloc_past _ _ _ _ R3.out)).trans rfl
  go_wp2_with fail
  clear t0 t1
  refine (HWD.out _).mono ?_
  rintro r w4 ⟨rfl, hb⟩
  have HBw4 := hid (show Below w.heap.size w w4 by have hB0 := HBw3.out; refine Below.trans ?_ (hb.mono ?_); (focus ((repeat' (first | (with_reducible exact Below.refl _ _) | (with_reducible assumption) | (with_reducible refine Below.alloc ?_ ?_ _) | (with_reducible refine Below.drew ?_) | (with_reducible refine below_drewN ?_ _) | (with_reducible refine Below.setCell ?_ ?_ _) | (with_reducible refine below_setRow ?_ ?_ _) | go_size)); done)); (focus (first | (simp; done) | (simp; omega) | (have hB1 := hB0.size; simp; omega))))
  have hsw4 := hb.size
  (try simp at hsw4)
  have hzw4 : w.heap.size < w4.heap.size := by omega
  obtain ⟨hcw4, hfw4⟩ := bcell hb
  have hkw4 := hid (fun n x => @heap_still _ _ n x hb)
  clear hb
  have P4 := hid (hkw4.out _ _ (heap_alloc_past _ _ _ _ P3.out))
  have R4 := hid (hkw4.out _ _ (heap_alloc_past _ _ _ _ R3.out))
  have B4 := hid (hkw4.out _ _ (heap_alloc_past _ _ _ _ B3.out))
  have K4 := hid (hkw4.out _ _ (heap_alloc_at _ _ _ rfl) : w4.heap[w3.heap.size]? = some (.cells #[.int .i64 k0, .int .i64 k1, .int .i64 k2] 26))
  clear hcw4 hfw4
  have hz4 : w.heap.size + 1 + 1 + 1 < w4.heap.size := (Array.getElem?_eq_some_iff.1 B4.out).1
  have u0 : ∀ o, (w4.alloc o).cell? ⟨w.heap.size, 0, none⟩ = some (.int .i64 x0) := fun o => (cell_row (j := 0) (heap_alloc_past _ _ _ _ P4.out)).trans rfl
  have u1 : ∀ o, (w4.alloc o).cell? ⟨w.heap.size, 1, none⟩ = some (.int .i64 x1) := fun o => (cell_row (j := 1) (heap_alloc_past _ _ _ _ P4.out)).trans rfl
  have u2 : ∀ o, (w4.alloc o).cell? ⟨w.heap.size, 2, none⟩ = some (.int .i64 y0) := fun o => (cell_row (j := 2) (heap_alloc_past _ _ _ _ P4.out)).trans rfl
  have u3 : ∀ o, (w4.alloc o).cell? ⟨w.heap.size, 3, none⟩ = some (.int .i64 y1) := fun o => (cell_row (j := 3) (heap_alloc_past _ _ _ _ P4.out)).trans rfl
  have u4 : ∀ o, (w4.alloc o).cell? ⟨w.heap.size, 4, none⟩ = some (.int .i64 z0) := fun o => (cell_row (j := 4) (heap_alloc_past _ _ _ _ P4.out)).trans rfl
  have u5 : ∀ o, (w4.alloc o).cell? ⟨w.heap.size, 5, none⟩ = some (.int .i64 z1) := fun o => (cell_row (j := 5) (heap_alloc_past _ _ _ _ P4.out)).trans rfl
  go_wp2_with fail
  clear u0 u1 u2 u3 u4 u5
  refine gen_world (fun W7 hW7 => ?_)
  have HB7 := hid (show Below w.heap.size w W7 by rw [hW7]; exact HBw4.out.alloc (by omega) _)
  have R7 := hid (show W7.heap[w.heap.size + 1 + 1]? = some (.cells #[.int .i64 r0, .int .i64 r1] 44) by rw [hW7]; exact heap_alloc_past _ _ _ _ R4.out)
  have B7 := hid (show W7.heap[w.heap.size + 1 + 1 + 1]? = some (.cells #[.int .i64 0, .int .i64 0, .int .i64 0, .int .i64 0, .int .i64 0, .int .i64 0] 46) by rw [hW7]; exact heap_alloc_past _ _ _ _ B4.out)
  have K7 := hid (show W7.heap[w3.heap.size]? = some (.cells #[.int .i64 k0, .int .i64 k1, .int .i64 k2] 26) by rw [hW7]; exact heap_alloc_past _ _ _ _ K4.out)
  have G7 := hid (show W7.heap[w4.heap.size]? = some (.cells (spA v0 v1 v2 v3 v4 v5 0) 78) by rw [hW7]; exact heap_alloc_at _ _ _ rfl)
  have hz34 : w3.heap.size < w4.heap.size := by omega
  have hs7 : W7.heap.size = w4.heap.size + 1 := by rw [hW7]; simp
  clear hW7
  go_loopw [41] (fun i wr => ∃ m : Nat, m ≤ 3 ∧ i = .int .i64 m ∧ (∀ j, j < m → locOk ([v0, v2, v4].getD j 0) ([v1, v3, v5].getD j 0) = true) ∧ wr.heap[w4.heap.size]? = some (.cells (spA v0 v1 v2 v3 v4 v5 m) 78) ∧ Below w4.heap.size W7 wr) (fun i _ => 3 - (intOf i).toNat)
  case atStart => exact ⟨0, by omega, rfl, fun j hj => absurd hj (Nat.not_lt_zero _), G7.out, Below.refl _ _⟩
  case round =>
    obtain ⟨m, hm, rfl, hall, hg, hB⟩ := hrel
    have hszr := hB.size
    have HALL := hid hall
    have FG := hid hg
    have FL := hid hB
    have HBR := hid (HB7.out.trans (hB.mono (by omega)))
    have FR := hid (heap_below hB (by omega) R7.out)
    have FB := hid (heap_below hB (by omega) B7.out)
    have FK := hid (heap_below hB (by omega) K7.out)
    clear hall hg hB
    by_cases hlt : m < 3
    · have hdm : decide ((m : Int) < 3) = true := by simp; omega
      have hix := index78 x0 x1 y0 y1 z0 z1 m hlt
      have HKC := hid (show (#[.int .i64 k0, .int .i64 k1, .int .i64 k2] : Array Value)[m]? = some (.int .i64 ([k0, k1, k2].getD m 0)) from rot_cell3 (l := [k0, k1, k2]) hlt)
      have hv := HVV.out m hlt
      have hkk := HKB.out m hlt
      obtain ⟨⟨hc1, hc2⟩, hc3, hc4⟩ := HCB.out m hlt
      have HOK := hid (show locOk ([v0, v2, v4].getD m 0) ([v1, v3, v5].getD m 0) = false → locAll v0 v1 v2 v3 v4 v5 = false from fun h => by unfold locAll; exact loc_bad m hlt (by rw [ok_at v0 v1 v2 v3 v4 v5 m hlt]; exact h))
      obtain ⟨lo, hlo⟩ : ∃ lo, lo = [v0, v2, v4].getD m 0 := ⟨_, rfl⟩
      obtain ⟨hi, hhi⟩ : ∃ hi, hi = [v1, v3, v5].getD m 0 := ⟨_, rfl⟩
      have HD1 := hid hlo.symm
      have HD2 := hid hhi.symm
      rw [← hlo, ← hhi] at hv HOK
      clear hlo hhi
      generalize [k0, k1, k2].getD m 0 = kk at *
      generalize [x0, y0, z0].getD m 0 = cl at *
      generalize [x1, y1, z1].getD m 0 = ch at *
      have HV1 := hid hv.1
      have HV2 := hid hv.2
      clear hv
      by_cases hneg : kk < 0
      · have hsg : decide (kk < 0) = true := by simp; omega
        have HLO := hid (show cl + dnV kk r1 n - wide = lo by rw [HV1.out]; unfold locLo; first | rw [if_pos hneg] | rw [if_neg hneg])
        have HHI := hid (show ch + upV kk r0 n + wide = hi by rw [HV2.out]; unfold locHi; first | rw [if_pos hneg] | rw [if_neg hneg])
        have HSC := hid (fun W => calm (scaled_any kk r1 n W hkk (by omega) (by omega) (by omega) (by omega)))
        have HRA := hid (fun W => calm (raised_any kk r0 n W hkk (by omega) (by omega) (by omega) (by omega)))
        have hdb : -4194304 ≤ dnV kk r1 n ∧ dnV kk r1 n ≤ 4194304 := loc_dn hkk (by omega) (by omega) (by omega)
        have hub : -4194304 ≤ upV kk r0 n ∧ upV kk r0 n ≤ 4194304 := loc_up hkk (by omega) (by omega) (by omega)
        obtain ⟨hd1, hd2⟩ := hdb
        obtain ⟨hu1, hu2⟩ := hub
        obtain ⟨hk1, hk2⟩ := hkk
        generalize dnV kk r1 n = dn at *
        generalize upV kk r0 n = up at *
        clear hneg
        go_wp2_with fail
        refine gen_world (fun W5 hW5 => ?_)
        have HB5 := hid (show Below w.heap.size w W5 by rw [hW5]; exact HBR.out.alloc (by omega) _)
        have GS := hid (show W5.heap[wr.heap.size]? = some (.cells #[.int .i64 cl, .int .i64 ch] 44) by rw [hW5]; exact heap_alloc_at _ _ _ rfl)
        have GR := hid (show W5.heap[w.heap.size + 1 + 1]? = some (.cells #[.int .i64 r0, .int .i64 r1] 44) by rw [hW5]; exact heap_alloc_past _ _ _ _ FR.out)
        have GK := hid (show W5.heap[w3.heap.size]? = some (.cells #[.int .i64 k0, .int .i64 k1, .int .i64 k2] 26) by rw [hW5]; exact heap_alloc_past _ _ _ _ FK.out)
        have GG := hid (show W5.heap[w4.heap.size]? = some (.cells (spA v0 v1 v2 v3 v4 v5 m) 78) by rw [hW5]; exact heap_alloc_past _ _ _ _ FG.out)
        have GB := hid (show W5.heap[w.heap.size + 1 + 1 + 1]? = some (.cells #[.int .i64 0, .int .i64 0, .int .i64 0, .int .i64 0, .int .i64 0, .int .i64 0] 46) by rw [hW5]; exact heap_alloc_past _ _ _ _ FB.out)
        have GL := hid (show Below w4.heap.size W7 W5 by rw [hW5]; exact FL.out.alloc (by omega) _)
        have hs5 : W5.heap.size = wr.heap.size + 1 := by rw [hW5]; simp
        clear hW5
        have c0 : W5.cell? ⟨w.heap.size + 1 + 1, 0, none⟩ = some (.int .i64 r0) := (cell_row (j := 0) GR.out).trans rfl
        have c1 : W5.cell? ⟨w.heap.size + 1 + 1, 1, none⟩ = some (.int .i64 r1) := (cell_row (j := 1) GR.out).trans rfl
        go_quiet (fail)
        clear c0 c1
        have c2 : ∀ q, (W5.drewN q).cell? ⟨w3.heap.size, m, none⟩ = some (.int .i64 kk) := fun q => (cell_row GK.out).trans HKC.out
        go_wp2_with fail
        clear c2
        refine gen_world (fun W0 hW0 => ?_)
        have HB0 := hid (show Below w.heap.size w W0 by rw [hW0]; exact below_drewN HB5.out _)
        have KS := hid (show W0.heap[wr.heap.size]? = some (.cells #[.int .i64 cl, .int .i64 ch] 44) by rw [hW0]; exact GS.out)
        have KK := hid (show W0.heap[w3.heap.size]? = some (.cells #[.int .i64 k0, .int .i64 k1, .int .i64 k2] 26) by rw [hW0]; exact GK.out)
        have KG := hid (show W0.heap[w4.heap.size]? = some (.cells (spA v0 v1 v2 v3 v4 v5 m) 78) by rw [hW0]; exact GG.out)
        have KB := hid (show W0.heap[w.heap.size + 1 + 1 + 1]? = some (.cells #[.int .i64 0, .int .i64 0, .int .i64 0, .int .i64 0, .int .i64 0, .int .i64 0] 46) by rw [hW0]; exact GB.out)
        have KL := hid (show Below w4.heap.size W7 W0 by rw [hW0]; exact below_drewN GL.out _)
        have hs0 : W0.heap.size = wr.heap.size + 1 := by rw [hW0]; exact hs5
        clear hW0 GS GR GK GG GB GL hs5 HB5
        refine gen_act (fun A0 hA => ?_)
        refine wp_region_last (by kernel_rfl) (by kernel_rfl) [some 55, some 56, some 57, some 58, some 59, some 60, some 61, some 62, some 63, some 64, some 65, some 66, some 67, some 68, some 69, some 70, some 71, some 72, some 73, some 74, some 75, some 76, some 77, some 17, none] rfl (by decide) 24 rfl (by kernel_rfl) (by kernel_rfl)
          [IsV (.pointer (some ⟨wr.heap.size, 0, none⟩)), IsV (.int .i64 cl), IsV (.int .i64 (m : Int)), IsV (.pointer (some ⟨w3.heap.size, m, none⟩)), IsV (.int .i64 kk), IsV (.int .i64 r1), IsV (.int .i64 n), IsV (.int .i64 dn), IsV (.int .i64 (cl + dn)), IsV (.int .i64 wide), IsV (.int .i64 (cl + dn - wide)), IsV (.pointer (some ⟨wr.heap.size, 1, none⟩)), IsV (.int .i64 ch), IsV (.int .i64 (m : Int)), IsV (.pointer (some ⟨w3.heap.size, m, none⟩)), IsV (.int .i64 kk), IsV (.int .i64 r0), IsV (.int .i64 n), IsV (.int .i64 up), IsV (.int .i64 (ch + up)), IsV (.int .i64 wide), IsV (.int .i64 (ch + up + wide)), IsV (.agg #[.int .i64 (cl + dn - wide), .int .i64 (ch + up + wide)]), Fresh44 W0.heap.size]
          ⟨IsV.stb _, IsV.stb _, IsV.stb _, IsV.stb _, IsV.stb _, IsV.stb _, IsV.stb _, IsV.stb _, IsV.stb _, IsV.stb _, IsV.stb _, IsV.stb _, IsV.stb _, IsV.stb _, IsV.stb _, IsV.stb _, IsV.stb _, IsV.stb _, IsV.stb _, IsV.stb _, IsV.stb _, IsV.stb _, IsV.stb _, Fresh44.stb _, trivial⟩ ?hs1_13_W8 ?hlast_13_W8
        case hs1_13_W8 =>
          refine ⟨?_, ?_, ?_, ?_, ?_, ?_, ?_, ?_, ?_, ?_, ?_, ?_, ?_, ?_, ?_, ?_, ?_, ?_, ?_, ?_, ?_, ?_, ?_, ?_, trivial⟩
          · intro K us W hK0 hB hd
            have hK := hid hK0; clear hK0
            have HBW := hid hB
            have hsW := hB.size
            have GB := hid (HB0.out.trans (hB.mono HB0.out.size))
            clear hd
            simp only [putF]
            rw [hA]
            go_frame
            go_wp2_with fail
            exact hK.out _ _ _ (by rw [hA]; simp only [putF]; kernel_rfl) (Below.refl _ _) rfl
          · intro K us W hK0 hB hd
            have hK := hid hK0; clear hK0
            have HBW := hid hB
            have hsW := hB.size
            have GB := hid (HB0.out.trans (hB.mono HB0.out.size))
            have e0 : us 0 = .pointer (some ⟨wr.heap.size, 0, none⟩) := hd ⟨0, Ground.data⟩ (by simp) rfl
            clear hd
            have G0 := hid (heap_still hB KS.out)
            have c0 : W.cell? ⟨wr.heap.size, 0, none⟩ = some (.int .i64 cl) := (cell_row (j := 0) G0.out).trans rfl
            simp only [putF]
            rw [hA, e0]
            go_frame
            go_wp2_with fail
            exact hK.out _ _ _ (by rw [hA]; simp only [putF]; rw [e0]; kernel_rfl) (Below.refl _ _) rfl
          · intro K us W hK0 hB hd
            have hK := hid hK0; clear hK0
            have HBW := hid hB
            have hsW := hB.size
            have GB := hid (HB0.out.trans (hB.mono HB0.out.size))
            clear hd
            simp only [putF]
            rw [hA]
            go_frame
            go_wp2_with fail
            exact hK.out _ _ _ (by rw [hA]; simp only [putF]; kernel_rfl) (Below.refl _ _) rfl
          · intro K us W hK0 hB hd
            have hK := hid hK0; clear hK0
            have HBW := hid hB
            have hsW := hB.size
            have GB := hid (HB0.out.trans (hB.mono HB0.out.size))
            have e2 : us 2 = .int .i64 (m : Int) := hd ⟨2, Ground.data⟩ (by simp) rfl
            clear hd
            simp only [putF]
            rw [hA, e2]
            go_frame
            go_wp2_with fail
            exact hK.out _ _ _ (by rw [hA]; simp only [putF]; rw [e2]; kernel_rfl) (Below.refl _ _) rfl
          · intro K us W hK0 hB hd
            have hK := hid hK0; clear hK0
            have HBW := hid hB
            have hsW := hB.size
            have GB := hid (HB0.out.trans (hB.mono HB0.out.size))
            have e3 : us 3 = .pointer (some ⟨w3.heap.size, m, none⟩) := hd ⟨3, Ground.data⟩ (by simp) rfl
            clear hd
            have c0 : W.cell? ⟨w3.heap.size, m, none⟩ = some (.int .i64 kk) := (cell_row (heap_still hB KK.out)).trans HKC.out
            simp only [putF]
            rw [hA, e3]
            go_frame
            go_wp2_with fail
            exact hK.out _ _ _ (by rw [hA]; simp only [putF]; rw [e3]; kernel_rfl) (Below.refl _ _) rfl
          · intro K us W hK0 hB hd
            have hK := hid hK0; clear hK0
            have HBW := hid hB
            have hsW := hB.size
            have GB := hid (HB0.out.trans (hB.mono HB0.out.size))
            clear hd
            simp only [putF]
            rw [hA]
            go_frame
            go_wp2_with fail
            exact hK.out _ _ _ (by rw [hA]; simp only [putF]; kernel_rfl) (Below.refl _ _) rfl
          · intro K us W hK0 hB hd
            have hK := hid hK0; clear hK0
            have HBW := hid hB
            have hsW := hB.size
            have GB := hid (HB0.out.trans (hB.mono HB0.out.size))
            clear hd
            simp only [putF]
            rw [hA]
            go_frame
            go_wp2_with fail
            exact hK.out _ _ _ (by rw [hA]; simp only [putF]; kernel_rfl) (Below.refl _ _) rfl
          · intro K us W hK0 hB hd
            have hK := hid hK0; clear hK0
            have HBW := hid hB
            have hsW := hB.size
            have GB := hid (HB0.out.trans (hB.mono HB0.out.size))
            have e4 : us 4 = .int .i64 kk := hd ⟨4, Ground.data⟩ (by simp) rfl
            have e5 : us 5 = .int .i64 r1 := hd ⟨5, Ground.data⟩ (by simp) rfl
            have e6 : us 6 = .int .i64 n := hd ⟨6, Ground.data⟩ (by simp) rfl
            clear hd
            simp only [putF]
            rw [hA, e4, e5, e6]
            go_frame
            go_wp2_with fail
            refine (HSC.out W).mono ?_
            rintro r W' ⟨rfl, hb⟩
            go_wp2_with fail
            exact hK.out _ _ _ (by rw [hA]; simp only [putF]; rw [e4, e5, e6]; kernel_rfl) hb rfl
          · intro K us W hK0 hB hd
            have hK := hid hK0; clear hK0
            have HBW := hid hB
            have hsW := hB.size
            have GB := hid (HB0.out.trans (hB.mono HB0.out.size))
            have e1 : us 1 = .int .i64 cl := hd ⟨1, Ground.data⟩ (by simp) rfl
            have e7 : us 7 = .int .i64 dn := hd ⟨7, Ground.data⟩ (by simp) rfl
            clear hd
            simp only [putF]
            rw [hA, e1, e7]
            go_frame
            go_wp2_with fail
            exact hK.out _ _ _ (by rw [hA]; simp only [putF]; rw [e1, e7]; kernel_rfl) (Below.refl _ _) rfl
          · intro K us W hK0 hB hd
            have hK := hid hK0; clear hK0
            have HBW := hid hB
            have hsW := hB.size
            have GB := hid (HB0.out.trans (hB.mono HB0.out.size))
            clear hd
            simp only [putF]
            rw [hA]
            go_frame
            go_wp2_with fail
            exact hK.out _ _ _ (by rw [hA]; simp only [putF]; kernel_rfl) (Below.refl _ _) rfl
          · intro K us W hK0 hB hd
            have hK := hid hK0; clear hK0
            have HBW := hid hB
            have hsW := hB.size
            have GB := hid (HB0.out.trans (hB.mono HB0.out.size))
            have e8 : us 8 = .int .i64 (cl + dn) := hd ⟨8, Ground.data⟩ (by simp) rfl
            have e9 : us 9 = .int .i64 wide := hd ⟨9, Ground.data⟩ (by simp) rfl
            clear hd
            simp only [putF]
            rw [hA, e8, e9]
            go_frame
            go_wp2_with fail
            exact hK.out _ _ _ (by rw [hA]; simp only [putF]; rw [e8, e9]; kernel_rfl) (Below.refl _ _) rfl
          · intro K us W hK0 hB hd
            have hK := hid hK0; clear hK0
            have HBW := hid hB
            have hsW := hB.size
            have GB := hid (HB0.out.trans (hB.mono HB0.out.size))
            clear hd
            simp only [putF]
            rw [hA]
            go_frame
            go_wp2_with fail
            exact hK.out _ _ _ (by rw [hA]; simp only [putF]; kernel_rfl) (Below.refl _ _) rfl
          · intro K us W hK0 hB hd
            have hK := hid hK0; clear hK0
            have HBW := hid hB
            have hsW := hB.size
            have GB := hid (HB0.out.trans (hB.mono HB0.out.size))
            have e11 : us 11 = .pointer (some ⟨wr.heap.size, 1, none⟩) := hd ⟨11, Ground.data⟩ (by simp) rfl
            clear hd
            have G0 := hid (heap_still hB KS.out)
            have c0 : W.cell? ⟨wr.heap.size, 1, none⟩ = some (.int .i64 ch) := (cell_row (j := 1) G0.out).trans rfl
            simp only [putF]
            rw [hA, e11]
            go_frame
            go_wp2_with fail
            exact hK.out _ _ _ (by rw [hA]; simp only [putF]; rw [e11]; kernel_rfl) (Below.refl _ _) rfl
          · intro K us W hK0 hB hd
            have hK := hid hK0; clear hK0
            have HBW := hid hB
            have hsW := hB.size
            have GB := hid (HB0.out.trans (hB.mono HB0.out.size))
            clear hd
            simp only [putF]
            rw [hA]
            go_frame
            go_wp2_with fail
            exact hK.out _ _ _ (by rw [hA]; simp only [putF]; kernel_rfl) (Below.refl _ _) rfl
          · intro K us W hK0 hB hd
            have hK := hid hK0; clear hK0
            have HBW := hid hB
            have hsW := hB.size
            have GB := hid (HB0.out.trans (hB.mono HB0.out.size))
            have e13 : us 13 = .int .i64 (m : Int) := hd ⟨13, Ground.data⟩ (by simp) rfl
            clear hd
            simp only [putF]
            rw [hA, e13]
            go_frame
            go_wp2_with fail
            exact hK.out _ _ _ (by rw [hA]; simp only [putF]; rw [e13]; kernel_rfl) (Below.refl _ _) rfl
          · intro K us W hK0 hB hd
            have hK := hid hK0; clear hK0
            have HBW := hid hB
            have hsW := hB.size
            have GB := hid (HB0.out.trans (hB.mono HB0.out.size))
            have e14 : us 14 = .pointer (some ⟨w3.heap.size, m, none⟩) := hd ⟨14, Ground.data⟩ (by simp) rfl
            clear hd
            have c0 : W.cell? ⟨w3.heap.size, m, none⟩ = some (.int .i64 kk) := (cell_row (heap_still hB KK.out)).trans HKC.out
            simp only [putF]
            rw [hA, e14]
            go_frame
            go_wp2_with fail
            exact hK.out _ _ _ (by rw [hA]; simp only [putF]; rw [e14]; kernel_rfl) (Below.refl _ _) rfl
          · intro K us W hK0 hB hd
            have hK := hid hK0; clear hK0
            have HBW := hid hB
            have hsW := hB.size
            have GB := hid (HB0.out.trans (hB.mono HB0.out.size))
            clear hd
            simp only [putF]
            rw [hA]
            go_frame
            go_wp2_with fail
            exact hK.out _ _ _ (by rw [hA]; simp only [putF]; kernel_rfl) (Below.refl _ _) rfl
          · intro K us W hK0 hB hd
            have hK := hid hK0; clear hK0
            have HBW := hid hB
            have hsW := hB.size
            have GB := hid (HB0.out.trans (hB.mono HB0.out.size))
            clear hd
            simp only [putF]
            rw [hA]
            go_frame
            go_wp2_with fail
            exact hK.out _ _ _ (by rw [hA]; simp only [putF]; kernel_rfl) (Below.refl _ _) rfl
          · intro K us W hK0 hB hd
            have hK := hid hK0; clear hK0
            have HBW := hid hB
            have hsW := hB.size
            have GB := hid (HB0.out.trans (hB.mono HB0.out.size))
            have e15 : us 15 = .int .i64 kk := hd ⟨15, Ground.data⟩ (by simp) rfl
            have e16 : us 16 = .int .i64 r0 := hd ⟨16, Ground.data⟩ (by simp) rfl
            have e17 : us 17 = .int .i64 n := hd ⟨17, Ground.data⟩ (by simp) rfl
            clear hd
            simp only [putF]
            rw [hA, e15, e16, e17]
            go_frame
            go_wp2_with fail
            refine (HRA.out W).mono ?_
            rintro r W' ⟨rfl, hb⟩
            go_wp2_with fail
            exact hK.out _ _ _ (by rw [hA]; simp only [putF]; rw [e15, e16, e17]; kernel_rfl) hb rfl
          · intro K us W hK0 hB hd
            have hK := hid hK0; clear hK0
            have HBW := hid hB
            have hsW := hB.size
            have GB := hid (HB0.out.trans (hB.mono HB0.out.size))
            have e12 : us 12 = .int .i64 ch := hd ⟨12, Ground.data⟩ (by simp) rfl
            have e18 : us 18 = .int .i64 up := hd ⟨18, Ground.data⟩ (by simp) rfl
            clear hd
            simp only [putF]
            rw [hA, e12, e18]
            go_frame
            go_wp2_with fail
            exact hK.out _ _ _ (by rw [hA]; simp only [putF]; rw [e12, e18]; kernel_rfl) (Below.refl _ _) rfl
          · intro K us W hK0 hB hd
            have hK := hid hK0; clear hK0
            have HBW := hid hB
            have hsW := hB.size
            have GB := hid (HB0.out.trans (hB.mono HB0.out.size))
            clear hd
            simp only [putF]
            rw [hA]
            go_frame
            go_wp2_with fail
            exact hK.out _ _ _ (by rw [hA]; simp only [putF]; kernel_rfl) (Below.refl _ _) rfl
          · intro K us W hK0 hB hd
            have hK := hid hK0; clear hK0
            have HBW := hid hB
            have hsW := hB.size
            have GB := hid (HB0.out.trans (hB.mono HB0.out.size))
            have e19 : us 19 = .int .i64 (ch + up) := hd ⟨19, Ground.data⟩ (by simp) rfl
            have e20 : us 20 = .int .i64 wide := hd ⟨20, Ground.data⟩ (by simp) rfl
            clear hd
            simp only [putF]
            rw [hA, e19, e20]
            go_frame
            go_wp2_with fail
            exact hK.out _ _ _ (by rw [hA]; simp only [putF]; rw [e19, e20]; kernel_rfl) (Below.refl _ _) rfl
          · intro K us W hK0 hB hd
            have hK := hid hK0; clear hK0
            have HBW := hid hB
            have hsW := hB.size
            have GB := hid (HB0.out.trans (hB.mono HB0.out.size))
            have e10 : us 10 = .int .i64 (cl + dn - wide) := hd ⟨10, Ground.data⟩ (by simp) rfl
            have e21 : us 21 = .int .i64 (ch + up + wide) := hd ⟨21, Ground.data⟩ (by simp) rfl
            clear hd
            simp only [putF]
            rw [hA, e10, e21]
            go_frame
            go_wp2_with fail
            exact hK.out _ _ _ (by rw [hA]; simp only [putF]; rw [e10, e21]; kernel_rfl) (Below.refl _ _) rfl
          · intro K us W hK0 hB hd
            have hK := hid hK0; clear hK0
            have HBW := hid hB
            have hsW := hB.size
            have GB := hid (HB0.out.trans (hB.mono HB0.out.size))
            clear hd
            simp only [putF]
            rw [hA]
            go_frame
            go_wp2_with fail
            exact hK.out _ _ _ (by rw [hA]; simp only [putF]; kernel_rfl) ((Below.refl _ _).alloc (Nat.le_refl _) _) (⟨_, rfl, hsW, heap_alloc_at _ _ _ rfl⟩)
        intro K us W8 hK0 hB hp
        have hK := hid hK0
        clear hK0
        have hd23 : (Fresh44 W0.heap.size) W8 (us 23) := hp 23 (by decide)
        obtain ⟨g23, e23, hg23, hh23⟩ := hd23
        have e22 : us 22 = .agg #[.int .i64 (cl + dn - wide), .int .i64 (ch + up + wide)] := hp 22 (by decide)
        have HBW8 := hid (HB0.out.trans (hB.mono HB0.out.size))
        have HSW8 := hid (fun n x => @heap_still _ _ n x hB)
        have hzW8 := hB.size
        have hbW8 := hid hB
        clear hp
        simp only [putF]
        rw [hA, e23, e22]
        skip
        go_frame
        go_wp2_with (refine wpList_store_at rfl 44 (.tmp 17) (.tmp 77) rfl rfl rfl hh23 size44 rfl rfl rfl ?_)
        refine hK.out undef _ _ (by rw [hA]; simp only [putF]; rw [e23, e22]; kernel_rfl) ?_
        clear hK hB hA e23 e22
        have hg23' : w4.heap.size < g23 := by omega
        generalize hW9' : W8.setRow g23 #[.int .i64 (cl + dn - wide), .int .i64 (ch + up + wide)] = W9
        have hW9 := hW9'.symm
        clear hW9'
        have HB9 := hid (show Below w.heap.size w W9 by rw [hW9]; exact below_setRow HBW8.out (by omega) _)
        have N1 := hid (show W9.heap[g23]? = some (.cells #[.int .i64 (cl + dn - wide), .int .i64 (ch + up + wide)] 44) by rw [hW9]; exact setRow_heap _ _ _ _ _ _ hh23)
        have NG := hid (show W9.heap[w4.heap.size]? = some (.cells (spA v0 v1 v2 v3 v4 v5 m) 78) by rw [hW9]; exact (setRow_other _ _ _ _ (by omega)).trans (HSW8.out _ _ KG.out))
        have NB := hid (show W9.heap[w.heap.size + 1 + 1 + 1]? = some (.cells #[.int .i64 0, .int .i64 0, .int .i64 0, .int .i64 0, .int .i64 0, .int .i64 0] 46) by rw [hW9]; exact (setRow_other _ _ _ _ (by omega)).trans (HSW8.out _ _ KB.out))
        have NL := hid (show Below w4.heap.size W7 W9 by rw [hW9]; exact below_setRow (KL.out.trans (hbW8.out.mono (by omega))) (by omega) _)
        have hs9 : g23 < W9.heap.size := (Array.getElem?_eq_some_iff.1 N1.out).1
        clear hW9 KS KK KG KB KL hh23
        have c3 : W9.cell? ⟨g23, 0, none⟩ = some (.int .i64 (cl + dn - wide)) := (cell_row (j := 0) N1.out).trans rfl
        have c4 : W9.cell? ⟨g23, 1, none⟩ = some (.int .i64 (ch + up + wide)) := (cell_row (j := 1) N1.out).trans rfl
        go_wp2_with fail
        refine (within_any _ _ _ _ _ _ [cl + dn - wide, ch + up + wide] _ rfl (by simp) (cells_ints _ (by repeat' (first | (refine heap_alloc_at _ _ _ ?_; (first | rfl | (simp; done) | (simp; omega))) | (refine heap_alloc_past _ _ _ _ ?_))) rfl)).mono ?_
        rintro r w' ⟨rfl, rfl⟩
        have hOK := HOK.out
        rw [← HLO.out, ← HHI.out] at hOK
        by_cases hok : [cl + dn - wide, ch + up + wide].all (inB (-268435456) 268435456) = true
        · rw [hok]
          have HOKm := hid (show locOk lo hi = true by rw [← HLO.out, ← HHI.out]; exact hok)
          clear hok hOK
          have NO1 := hid (heap_alloc_past _ (.cells #[.int .i64 (cl + dn - wide), .int .i64 (ch + up + wide)] 3) _ _ N1.out)
          have NO2 := hid (heap_alloc_past _ (.cells #[.int .i64 (cl + dn - wide), .int .i64 (ch + up + wide)] 3) _ _ NG.out)
          have c5 : ∀ o, (W9.alloc o).cell? ⟨g23, 0, none⟩ = some (.int .i64 (cl + dn - wide)) := fun o => (cell_row (j := 0) (heap_alloc_past _ _ _ _ N1.out)).trans rfl
          have c6 : ∀ o, (W9.alloc o).cell? ⟨g23, 1, none⟩ = some (.int .i64 (ch + up + wide)) := fun o => (cell_row (j := 1) (heap_alloc_past _ _ _ _ N1.out)).trans rfl
          go_wp2_with (refine pt_store rfl 44 (.tmp 88) (.tmp 87) rfl _ _ _ rfl rfl NO2.out size44 rfl (by rw [spA_size]; omega) rfl ?_)
          refine ⟨⟨m + 1, by omega, by go_num, ?_, ?_, ?_⟩, by simp [intOf]; omega⟩
          · intro j hj
            rcases Nat.lt_or_ge j m with h | h
            · exact HALL.out j h
            · obtain rfl : j = m := by omega
              rw [HD1.out, HD2.out]
              exact HOKm.out
          · rw [← spA_next v0 v1 v2 v3 v4 v5 hlt, HD1.out, HD2.out, ← HLO.out, ← HHI.out]
            exact setRow_heap _ _ _ _ _ _ NO2.out
          · exact below_setRow (NL.out.alloc (by omega) _) (Nat.le_refl _) _
        · rw [Bool.eq_false_iff.2 hok]
          have HBAD := hid (show locAll v0 v1 v2 v3 v4 v5 = false from hOK (Bool.eq_false_iff.2 hok))
          clear hok hOK
          have NB2 := hid (heap_alloc_past _ (.cells #[.int .i64 (cl + dn - wide), .int .i64 (ch + up + wide)] 3) _ _ NB.out)
          go_wp2_with (refine wpList_store_at rfl 46 (.tmp 6) (.tmp 85) rfl rfl rfl NB2.out size46 rfl rfl rfl ?_)
          refine bodyPost_ret (results_at2 rfl rfl (setRow_heap _ _ _ _ _ _ NB2.out) Try.underlying46 rfl size46 rfl) rfl ?_
          exact ⟨by rw [HBAD.out]; rfl, below_setRow (HB9.out.alloc (by omega) _) (by omega) _⟩
      · have hsg : decide (kk < 0) = false := by simp; omega
        have HLO := hid (show cl + dnV kk r0 n - wide = lo by rw [HV1.out]; unfold locLo; first | rw [if_pos hneg] | rw [if_neg hneg])
        have HHI := hid (show ch + upV kk r1 n + wide = hi by rw [HV2.out]; unfold locHi; first | rw [if_pos hneg] | rw [if_neg hneg])
        have HSC := hid (fun W => calm (scaled_any kk r0 n W hkk (by omega) (by omega) (by omega) (by omega)))
        have HRA := hid (fun W => calm (raised_any kk r1 n W hkk (by omega) (by omega) (by omega) (by omega)))
        have hdb : -4194304 ≤ dnV kk r0 n ∧ dnV kk r0 n ≤ 4194304 := loc_dn hkk (by omega) (by omega) (by omega)
        have hub : -4194304 ≤ upV kk r1 n ∧ upV kk r1 n ≤ 4194304 := loc_up hkk (by omega) (by omega) (by omega)
        obtain ⟨hd1, hd2⟩ := hdb
        obtain ⟨hu1, hu2⟩ := hub
        obtain ⟨hk1, hk2⟩ := hkk
        generalize dnV kk r0 n = dn at *
        generalize upV kk r1 n = up at *
        clear hneg
        go_wp2_with fail
        refine gen_world (fun W5 hW5 => ?_)
        have HB5 := hid (show Below w.heap.size w W5 by rw [hW5]; exact HBR.out.alloc (by omega) _)
        have GS := hid (show W5.heap[wr.heap.size]? = some (.cells #[.int .i64 cl, .int .i64 ch] 44) by rw [hW5]; exact heap_alloc_at _ _ _ rfl)
        have GR := hid (show W5.heap[w.heap.size + 1 + 1]? = some (.cells #[.int .i64 r0, .int .i64 r1] 44) by rw [hW5]; exact heap_alloc_past _ _ _ _ FR.out)
        have GK := hid (show W5.heap[w3.heap.size]? = some (.cells #[.int .i64 k0, .int .i64 k1, .int .i64 k2] 26) by rw [hW5]; exact heap_alloc_past _ _ _ _ FK.out)
        have GG := hid (show W5.heap[w4.heap.size]? = some (.cells (spA v0 v1 v2 v3 v4 v5 m) 78) by rw [hW5]; exact heap_alloc_past _ _ _ _ FG.out)
        have GB := hid (show W5.heap[w.heap.size + 1 + 1 + 1]? = some (.cells #[.int .i64 0, .int .i64 0, .int .i64 0, .int .i64 0, .int .i64 0, .int .i64 0] 46) by rw [hW5]; exact heap_alloc_past _ _ _ _ FB.out)
        have GL := hid (show Below w4.heap.size W7 W5 by rw [hW5]; exact FL.out.alloc (by omega) _)
        have hs5 : W5.heap.size = wr.heap.size + 1 := by rw [hW5]; simp
        clear hW5
        have c0 : W5.cell? ⟨w.heap.size + 1 + 1, 0, none⟩ = some (.int .i64 r0) := (cell_row (j := 0) GR.out).trans rfl
        have c1 : W5.cell? ⟨w.heap.size + 1 + 1, 1, none⟩ = some (.int .i64 r1) := (cell_row (j := 1) GR.out).trans rfl
        go_quiet (fail)
        clear c0 c1
        have c2 : ∀ q, (W5.drewN q).cell? ⟨w3.heap.size, m, none⟩ = some (.int .i64 kk) := fun q => (cell_row GK.out).trans HKC.out
        go_wp2_with fail
        clear c2
        refine gen_world (fun W0 hW0 => ?_)
        have HB0 := hid (show Below w.heap.size w W0 by rw [hW0]; exact below_drewN HB5.out _)
        have KS := hid (show W0.heap[wr.heap.size]? = some (.cells #[.int .i64 cl, .int .i64 ch] 44) by rw [hW0]; exact GS.out)
        have KK := hid (show W0.heap[w3.heap.size]? = some (.cells #[.int .i64 k0, .int .i64 k1, .int .i64 k2] 26) by rw [hW0]; exact GK.out)
        have KG := hid (show W0.heap[w4.heap.size]? = some (.cells (spA v0 v1 v2 v3 v4 v5 m) 78) by rw [hW0]; exact GG.out)
        have KB := hid (show W0.heap[w.heap.size + 1 + 1 + 1]? = some (.cells #[.int .i64 0, .int .i64 0, .int .i64 0, .int .i64 0, .int .i64 0, .int .i64 0] 46) by rw [hW0]; exact GB.out)
        have KL := hid (show Below w4.heap.size W7 W0 by rw [hW0]; exact below_drewN GL.out _)
        have hs0 : W0.heap.size = wr.heap.size + 1 := by rw [hW0]; exact hs5
        clear hW0 GS GR GK GG GB GL hs5 HB5
        refine gen_act (fun A0 hA => ?_)
        refine wp_region_last (by kernel_rfl) (by kernel_rfl) [some 55, some 56, some 57, some 58, some 59, some 60, some 61, some 62, some 63, some 64, some 65, some 66, some 67, some 68, some 69, some 70, some 71, some 72, some 73, some 74, some 75, some 76, some 77, some 17, none] rfl (by decide) 24 rfl (by kernel_rfl) (by kernel_rfl)
          [IsV (.pointer (some ⟨wr.heap.size, 0, none⟩)), IsV (.int .i64 cl), IsV (.int .i64 (m : Int)), IsV (.pointer (some ⟨w3.heap.size, m, none⟩)), IsV (.int .i64 kk), IsV (.int .i64 r0), IsV (.int .i64 n), IsV (.int .i64 dn), IsV (.int .i64 (cl + dn)), IsV (.int .i64 wide), IsV (.int .i64 (cl + dn - wide)), IsV (.pointer (some ⟨wr.heap.size, 1, none⟩)), IsV (.int .i64 ch), IsV (.int .i64 (m : Int)), IsV (.pointer (some ⟨w3.heap.size, m, none⟩)), IsV (.int .i64 kk), IsV (.int .i64 r1), IsV (.int .i64 n), IsV (.int .i64 up), IsV (.int .i64 (ch + up)), IsV (.int .i64 wide), IsV (.int .i64 (ch + up + wide)), IsV (.agg #[.int .i64 (cl + dn - wide), .int .i64 (ch + up + wide)]), Fresh44 W0.heap.size]
          ⟨IsV.stb _, IsV.stb _, IsV.stb _, IsV.stb _, IsV.stb _, IsV.stb _, IsV.stb _, IsV.stb _, IsV.stb _, IsV.stb _, IsV.stb _, IsV.stb _, IsV.stb _, IsV.stb _, IsV.stb _, IsV.stb _, IsV.stb _, IsV.stb _, IsV.stb _, IsV.stb _, IsV.stb _, IsV.stb _, IsV.stb _, Fresh44.stb _, trivial⟩ ?hs1_13_W6 ?hlast_13_W6
        case hs1_13_W6 =>
          refine ⟨?_, ?_, ?_, ?_, ?_, ?_, ?_, ?_, ?_, ?_, ?_, ?_, ?_, ?_, ?_, ?_, ?_, ?_, ?_, ?_, ?_, ?_, ?_, ?_, trivial⟩
          · intro K us W hK0 hB hd
            have hK := hid hK0; clear hK0
            have HBW := hid hB
            have hsW := hB.size
            have GB := hid (HB0.out.trans (hB.mono HB0.out.size))
            clear hd
            simp only [putF]
            rw [hA]
            go_frame
            go_wp2_with fail
            exact hK.out _ _ _ (by rw [hA]; simp only [putF]; kernel_rfl) (Below.refl _ _) rfl
          · intro K us W hK0 hB hd
            have hK := hid hK0; clear hK0
            have HBW := hid hB
            have hsW := hB.size
            have GB := hid (HB0.out.trans (hB.mono HB0.out.size))
            have e0 : us 0 = .pointer (some ⟨wr.heap.size, 0, none⟩) := hd ⟨0, Ground.data⟩ (by simp) rfl
            clear hd
            have G0 := hid (heap_still hB KS.out)
            have c0 : W.cell? ⟨wr.heap.size, 0, none⟩ = some (.int .i64 cl) := (cell_row (j := 0) G0.out).trans rfl
            simp only [putF]
            rw [hA, e0]
            go_frame
            go_wp2_with fail
            exact hK.out _ _ _ (by rw [hA]; simp only [putF]; rw [e0]; kernel_rfl) (Below.refl _ _) rfl
          · intro K us W hK0 hB hd
            have hK := hid hK0; clear hK0
            have HBW := hid hB
            have hsW := hB.size
            have GB := hid (HB0.out.trans (hB.mono HB0.out.size))
            clear hd
            simp only [putF]
            rw [hA]
            go_frame
            go_wp2_with fail
            exact hK.out _ _ _ (by rw [hA]; simp only [putF]; kernel_rfl) (Below.refl _ _) rfl
          · intro K us W hK0 hB hd
            have hK := hid hK0; clear hK0
            have HBW := hid hB
            have hsW := hB.size
            have GB := hid (HB0.out.trans (hB.mono HB0.out.size))
            have e2 : us 2 = .int .i64 (m : Int) := hd ⟨2, Ground.data⟩ (by simp) rfl
            clear hd
            simp only [putF]
            rw [hA, e2]
            go_frame
            go_wp2_with fail
            exact hK.out _ _ _ (by rw [hA]; simp only [putF]; rw [e2]; kernel_rfl) (Below.refl _ _) rfl
          · intro K us W hK0 hB hd
            have hK := hid hK0; clear hK0
            have HBW := hid hB
            have hsW := hB.size
            have GB := hid (HB0.out.trans (hB.mono HB0.out.size))
            have e3 : us 3 = .pointer (some ⟨w3.heap.size, m, none⟩) := hd ⟨3, Ground.data⟩ (by simp) rfl
            clear hd
            have c0 : W.cell? ⟨w3.heap.size, m, none⟩ = some (.int .i64 kk) := (cell_row (heap_still hB KK.out)).trans HKC.out
            simp only [putF]
            rw [hA, e3]
            go_frame
            go_wp2_with fail
            exact hK.out _ _ _ (by rw [hA]; simp only [putF]; rw [e3]; kernel_rfl) (Below.refl _ _) rfl
          · intro K us W hK0 hB hd
            have hK := hid hK0; clear hK0
            have HBW := hid hB
            have hsW := hB.size
            have GB := hid (HB0.out.trans (hB.mono HB0.out.size))
            clear hd
            simp only [putF]
            rw [hA]
            go_frame
            go_wp2_with fail
            exact hK.out _ _ _ (by rw [hA]; simp only [putF]; kernel_rfl) (Below.refl _ _) rfl
          · intro K us W hK0 hB hd
            have hK := hid hK0; clear hK0
            have HBW := hid hB
            have hsW := hB.size
            have GB := hid (HB0.out.trans (hB.mono HB0.out.size))
            clear hd
            simp only [putF]
            rw [hA]
            go_frame
            go_wp2_with fail
            exact hK.out _ _ _ (by rw [hA]; simp only [putF]; kernel_rfl) (Below.refl _ _) rfl
          · intro K us W hK0 hB hd
            have hK := hid hK0; clear hK0
            have HBW := hid hB
            have hsW := hB.size
            have GB := hid (HB0.out.trans (hB.mono HB0.out.size))
            have e4 : us 4 = .int .i64 kk := hd ⟨4, Ground.data⟩ (by simp) rfl
            have e5 : us 5 = .int .i64 r0 := hd ⟨5, Ground.data⟩ (by simp) rfl
            have e6 : us 6 = .int .i64 n := hd ⟨6, Ground.data⟩ (by simp) rfl
            clear hd
            simp only [putF]
            rw [hA, e4, e5, e6]
            go_frame
            go_wp2_with fail
            refine (HSC.out W).mono ?_
            rintro r W' ⟨rfl, hb⟩
            go_wp2_with fail
            exact hK.out _ _ _ (by rw [hA]; simp only [putF]; rw [e4, e5, e6]; kernel_rfl) hb rfl
          · intro K us W hK0 hB hd
            have hK := hid hK0; clear hK0
            have HBW := hid hB
            have hsW := hB.size
            have GB := hid (HB0.out.trans (hB.mono HB0.out.size))
            have e1 : us 1 = .int .i64 cl := hd ⟨1, Ground.data⟩ (by simp) rfl
            have e7 : us 7 = .int .i64 dn := hd ⟨7, Ground.data⟩ (by simp) rfl
            clear hd
            simp only [putF]
            rw [hA, e1, e7]
            go_frame
            go_wp2_with fail
            exact hK.out _ _ _ (by rw [hA]; simp only [putF]; rw [e1, e7]; kernel_rfl) (Below.refl _ _) rfl
          · intro K us W hK0 hB hd
            have hK := hid hK0; clear hK0
            have HBW := hid hB
            have hsW := hB.size
            have GB := hid (HB0.out.trans (hB.mono HB0.out.size))
            clear hd
            simp only [putF]
            rw [hA]
            go_frame
            go_wp2_with fail
            exact hK.out _ _ _ (by rw [hA]; simp only [putF]; kernel_rfl) (Below.refl _ _) rfl
          · intro K us W hK0 hB hd
            have hK := hid hK0; clear hK0
            have HBW := hid hB
            have hsW := hB.size
            have GB := hid (HB0.out.trans (hB.mono HB0.out.size))
            have e8 : us 8 = .int .i64 (cl + dn) := hd ⟨8, Ground.data⟩ (by simp) rfl
            have e9 : us 9 = .int .i64 wide := hd ⟨9, Ground.data⟩ (by simp) rfl
            clear hd
            simp only [putF]
            rw [hA, e8, e9]
            go_frame
            go_wp2_with fail
            exact hK.out _ _ _ (by rw [hA]; simp only [putF]; rw [e8, e9]; kernel_rfl) (Below.refl _ _) rfl
          · intro K us W hK0 hB hd
            have hK := hid hK0; clear hK0
            have HBW := hid hB
            have hsW := hB.size
            have GB := hid (HB0.out.trans (hB.mono HB0.out.size))
            clear hd
            simp only [putF]
            rw [hA]
            go_frame
            go_wp2_with fail
            exact hK.out _ _ _ (by rw [hA]; simp only [putF]; kernel_rfl) (Below.refl _ _) rfl
          · intro K us W hK0 hB hd
            have hK := hid hK0; clear hK0
            have HBW := hid hB
            have hsW := hB.size
            have GB := hid (HB0.out.trans (hB.mono HB0.out.size))
            have e11 : us 11 = .pointer (some ⟨wr.heap.size, 1, none⟩) := hd ⟨11, Ground.data⟩ (by simp) rfl
            clear hd
            have G0 := hid (heap_still hB KS.out)
            have c0 : W.cell? ⟨wr.heap.size, 1, none⟩ = some (.int .i64 ch) := (cell_row (j := 1) G0.out).trans rfl
            simp only [putF]
            rw [hA, e11]
            go_frame
            go_wp2_with fail
            exact hK.out _ _ _ (by rw [hA]; simp only [putF]; rw [e11]; kernel_rfl) (Below.refl _ _) rfl
          · intro K us W hK0 hB hd
            have hK := hid hK0; clear hK0
            have HBW := hid hB
            have hsW := hB.size
            have GB := hid (HB0.out.trans (hB.mono HB0.out.size))
            clear hd
            simp only [putF]
            rw [hA]
            go_frame
            go_wp2_with fail
            exact hK.out _ _ _ (by rw [hA]; simp only [putF]; kernel_rfl) (Below.refl _ _) rfl
          · intro K us W hK0 hB hd
            have hK := hid hK0; clear hK0
            have HBW := hid hB
            have hsW := hB.size
            have GB := hid (HB0.out.trans (hB.mono HB0.out.size))
            have e13 : us 13 = .int .i64 (m : Int) := hd ⟨13, Ground.data⟩ (by simp) rfl
            clear hd
            simp only [putF]
            rw [hA, e13]
            go_frame
            go_wp2_with fail
            exact hK.out _ _ _ (by rw [hA]; simp only [putF]; rw [e13]; kernel_rfl) (Below.refl _ _) rfl
          · intro K us W hK0 hB hd
            have hK := hid hK0; clear hK0
            have HBW := hid hB
            have hsW := hB.size
            have GB := hid (HB0.out.trans (hB.mono HB0.out.size))
            have e14 : us 14 = .pointer (some ⟨w3.heap.size, m, none⟩) := hd ⟨14, Ground.data⟩ (by simp) rfl
            clear hd
            have c0 : W.cell? ⟨w3.heap.size, m, none⟩ = some (.int .i64 kk) := (cell_row (heap_still hB KK.out)).trans HKC.out
            simp only [putF]
            rw [hA, e14]
            go_frame
            go_wp2_with fail
            exact hK.out _ _ _ (by rw [hA]; simp only [putF]; rw [e14]; kernel_rfl) (Below.refl _ _) rfl
          · intro K us W hK0 hB hd
            have hK := hid hK0; clear hK0
            have HBW := hid hB
            have hsW := hB.size
            have GB := hid (HB0.out.trans (hB.mono HB0.out.size))
            clear hd
            simp only [putF]
            rw [hA]
            go_frame
            go_wp2_with fail
            exact hK.out _ _ _ (by rw [hA]; simp only [putF]; kernel_rfl) (Below.refl _ _) rfl
          · intro K us W hK0 hB hd
            have hK := hid hK0; clear hK0
            have HBW := hid hB
            have hsW := hB.size
            have GB := hid (HB0.out.trans (hB.mono HB0.out.size))
            clear hd
            simp only [putF]
            rw [hA]
            go_frame
            go_wp2_with fail
            exact hK.out _ _ _ (by rw [hA]; simp only [putF]; kernel_rfl) (Below.refl _ _) rfl
          · intro K us W hK0 hB hd
            have hK := hid hK0; clear hK0
            have HBW := hid hB
            have hsW := hB.size
            have GB := hid (HB0.out.trans (hB.mono HB0.out.size))
            have e15 : us 15 = .int .i64 kk := hd ⟨15, Ground.data⟩ (by simp) rfl
            have e16 : us 16 = .int .i64 r1 := hd ⟨16, Ground.data⟩ (by simp) rfl
            have e17 : us 17 = .int .i64 n := hd ⟨17, Ground.data⟩ (by simp) rfl
            clear hd
            simp only [putF]
            rw [hA, e15, e16, e17]
            go_frame
            go_wp2_with fail
            refine (HRA.out W).mono ?_
            rintro r W' ⟨rfl, hb⟩
            go_wp2_with fail
            exact hK.out _ _ _ (by rw [hA]; simp only [putF]; rw [e15, e16, e17]; kernel_rfl) hb rfl
          · intro K us W hK0 hB hd
            have hK := hid hK0; clear hK0
            have HBW := hid hB
            have hsW := hB.size
            have GB := hid (HB0.out.trans (hB.mono HB0.out.size))
            have e12 : us 12 = .int .i64 ch := hd ⟨12, Ground.data⟩ (by simp) rfl
            have e18 : us 18 = .int .i64 up := hd ⟨18, Ground.data⟩ (by simp) rfl
            clear hd
            simp only [putF]
            rw [hA, e12, e18]
            go_frame
            go_wp2_with fail
            exact hK.out _ _ _ (by rw [hA]; simp only [putF]; rw [e12, e18]; kernel_rfl) (Below.refl _ _) rfl
          · intro K us W hK0 hB hd
            have hK := hid hK0; clear hK0
            have HBW := hid hB
            have hsW := hB.size
            have GB := hid (HB0.out.trans (hB.mono HB0.out.size))
            clear hd
            simp only [putF]
            rw [hA]
            go_frame
            go_wp2_with fail
            exact hK.out _ _ _ (by rw [hA]; simp only [putF]; kernel_rfl) (Below.refl _ _) rfl
          · intro K us W hK0 hB hd
            have hK := hid hK0; clear hK0
            have HBW := hid hB
            have hsW := hB.size
            have GB := hid (HB0.out.trans (hB.mono HB0.out.size))
            have e19 : us 19 = .int .i64 (ch + up) := hd ⟨19, Ground.data⟩ (by simp) rfl
            have e20 : us 20 = .int .i64 wide := hd ⟨20, Ground.data⟩ (by simp) rfl
            clear hd
            simp only [putF]
            rw [hA, e19, e20]
            go_frame
            go_wp2_with fail
            exact hK.out _ _ _ (by rw [hA]; simp only [putF]; rw [e19, e20]; kernel_rfl) (Below.refl _ _) rfl
          · intro K us W hK0 hB hd
            have hK := hid hK0; clear hK0
            have HBW := hid hB
            have hsW := hB.size
            have GB := hid (HB0.out.trans (hB.mono HB0.out.size))
            have e10 : us 10 = .int .i64 (cl + dn - wide) := hd ⟨10, Ground.data⟩ (by simp) rfl
            have e21 : us 21 = .int .i64 (ch + up + wide) := hd ⟨21, Ground.data⟩ (by simp) rfl
            clear hd
            simp only [putF]
            rw [hA, e10, e21]
            go_frame
            go_wp2_with fail
            exact hK.out _ _ _ (by rw [hA]; simp only [putF]; rw [e10, e21]; kernel_rfl) (Below.refl _ _) rfl
          · intro K us W hK0 hB hd
            have hK := hid hK0; clear hK0
            have HBW := hid hB
            have hsW := hB.size
            have GB := hid (HB0.out.trans (hB.mono HB0.out.size))
            clear hd
            simp only [putF]
            rw [hA]
            go_frame
            go_wp2_with fail
            exact hK.out _ _ _ (by rw [hA]; simp only [putF]; kernel_rfl) ((Below.refl _ _).alloc (Nat.le_refl _) _) (⟨_, rfl, hsW, heap_alloc_at _ _ _ rfl⟩)
        intro K us W6 hK0 hB hp
        have hK := hid hK0
        clear hK0
        have hd23 : (Fresh44 W0.heap.size) W6 (us 23) := hp 23 (by decide)
        obtain ⟨g23, e23, hg23, hh23⟩ := hd23
        have e22 : us 22 = .agg #[.int .i64 (cl + dn - wide), .int .i64 (ch + up + wide)] := hp 22 (by decide)
        have HBW6 := hid (HB0.out.trans (hB.mono HB0.out.size))
        have HSW6 := hid (fun n x => @heap_still _ _ n x hB)
        have hzW6 := hB.size
        have hbW6 := hid hB
        clear hp
        simp only [putF]
        rw [hA, e23, e22]
        skip
        go_frame
        go_wp2_with (refine wpList_store_at rfl 44 (.tmp 17) (.tmp 77) rfl rfl rfl hh23 size44 rfl rfl rfl ?_)
        refine hK.out undef _ _ (by rw [hA]; simp only [putF]; rw [e23, e22]; kernel_rfl) ?_
        clear hK hB hA e23 e22
        have hg23' : w4.heap.size < g23 := by omega
        generalize hW9' : W6.setRow g23 #[.int .i64 (cl + dn - wide), .int .i64 (ch + up + wide)] = W9
        have hW9 := hW9'.symm
        clear hW9'
        have HB9 := hid (show Below w.heap.size w W9 by rw [hW9]; exact below_setRow HBW6.out (by omega) _)
        have N1 := hid (show W9.heap[g23]? = some (.cells #[.int .i64 (cl + dn - wide), .int .i64 (ch + up + wide)] 44) by rw [hW9]; exact setRow_heap _ _ _ _ _ _ hh23)
        have NG := hid (show W9.heap[w4.heap.size]? = some (.cells (spA v0 v1 v2 v3 v4 v5 m) 78) by rw [hW9]; exact (setRow_other _ _ _ _ (by omega)).trans (HSW6.out _ _ KG.out))
        have NB := hid (show W9.heap[w.heap.size + 1 + 1 + 1]? = some (.cells #[.int .i64 0, .int .i64 0, .int .i64 0, .int .i64 0, .int .i64 0, .int .i64 0] 46) by rw [hW9]; exact (setRow_other _ _ _ _ (by omega)).trans (HSW6.out _ _ KB.out))
        have NL := hid (show Below w4.heap.size W7 W9 by rw [hW9]; exact below_setRow (KL.out.trans (hbW6.out.mono (by omega))) (by omega) _)
        have hs9 : g23 < W9.heap.size := (Array.getElem?_eq_some_iff.1 N1.out).1
        clear hW9 KS KK KG KB KL hh23
        have c3 : W9.cell? ⟨g23, 0, none⟩ = some (.int .i64 (cl + dn - wide)) := (cell_row (j := 0) N1.out).trans rfl
        have c4 : W9.cell? ⟨g23, 1, none⟩ = some (.int .i64 (ch + up + wide)) := (cell_row (j := 1) N1.out).trans rfl
        go_wp2_with fail
        refine (within_any _ _ _ _ _ _ [cl + dn - wide, ch + up + wide] _ rfl (by simp) (cells_ints _ (by repeat' (first | (refine heap_alloc_at _ _ _ ?_; (first | rfl | (simp; done) | (simp; omega))) | (refine heap_alloc_past _ _ _ _ ?_))) rfl)).mono ?_
        rintro r w' ⟨rfl, rfl⟩
        have hOK := HOK.out
        rw [← HLO.out, ← HHI.out] at hOK
        by_cases hok : [cl + dn - wide, ch + up + wide].all (inB (-268435456) 268435456) = true
        · rw [hok]
          have HOKm := hid (show locOk lo hi = true by rw [← HLO.out, ← HHI.out]; exact hok)
          clear hok hOK
          have NO1 := hid (heap_alloc_past _ (.cells #[.int .i64 (cl + dn - wide), .int .i64 (ch + up + wide)] 3) _ _ N1.out)
          have NO2 := hid (heap_alloc_past _ (.cells #[.int .i64 (cl + dn - wide), .int .i64 (ch + up + wide)] 3) _ _ NG.out)
          have c5 : ∀ o, (W9.alloc o).cell? ⟨g23, 0, none⟩ = some (.int .i64 (cl + dn - wide)) := fun o => (cell_row (j := 0) (heap_alloc_past _ _ _ _ N1.out)).trans rfl
          have c6 : ∀ o, (W9.alloc o).cell? ⟨g23, 1, none⟩ = some (.int .i64 (ch + up + wide)) := fun o => (cell_row (j := 1) (heap_alloc_past _ _ _ _ N1.out)).trans rfl
          go_wp2_with (refine pt_store rfl 44 (.tmp 88) (.tmp 87) rfl _ _ _ rfl rfl NO2.out size44 rfl (by rw [spA_size]; omega) rfl ?_)
          refine ⟨⟨m + 1, by omega, by go_num, ?_, ?_, ?_⟩, by simp [intOf]; omega⟩
          · intro j hj
            rcases Nat.lt_or_ge j m with h | h
            · exact HALL.out j h
            · obtain rfl : j = m := by omega
              rw [HD1.out, HD2.out]
              exact HOKm.out
          · rw [← spA_next v0 v1 v2 v3 v4 v5 hlt, HD1.out, HD2.out, ← HLO.out, ← HHI.out]
            exact setRow_heap _ _ _ _ _ _ NO2.out
          · exact below_setRow (NL.out.alloc (by omega) _) (Nat.le_refl _) _
        · rw [Bool.eq_false_iff.2 hok]
          have HBAD := hid (show locAll v0 v1 v2 v3 v4 v5 = false from hOK (Bool.eq_false_iff.2 hok))
          clear hok hOK
          have NB2 := hid (heap_alloc_past _ (.cells #[.int .i64 (cl + dn - wide), .int .i64 (ch + up + wide)] 3) _ _ NB.out)
          go_wp2_with (refine wpList_store_at rfl 46 (.tmp 6) (.tmp 85) rfl rfl rfl NB2.out size46 rfl rfl rfl ?_)
          refine bodyPost_ret (results_at2 rfl rfl (setRow_heap _ _ _ _ _ _ NB2.out) Try.underlying46 rfl size46 rfl) rfl ?_
          exact ⟨by rw [HBAD.out]; rfl, below_setRow (HB9.out.alloc (by omega) _) (by omega) _⟩
    · have : m = 3 := by omega
      subst this
      have HALLG := hid (show locAll v0 v1 v2 v3 v4 v5 = true by
        unfold locAll; rw [Bool.and_eq_true, Bool.and_eq_true]
        exact ⟨⟨HALL.out 0 (by decide), HALL.out 1 (by decide)⟩, HALL.out 2 (by decide)⟩)
      have FG' := hid (show wr.heap[w4.heap.size]? = some (.cells #[.int .i64 v0, .int .i64 v1, .int .i64 v2, .int .i64 v3, .int .i64 v4, .int .i64 v5] 78) from FG.out)
      have d0 : wr.cell? ⟨w4.heap.size, 0, none⟩ = some (.int .i64 v0) := (cell_row (j := 0) FG'.out).trans rfl
      have d1 : wr.cell? ⟨w4.heap.size, 1, none⟩ = some (.int .i64 v1) := (cell_row (j := 1) FG'.out).trans rfl
      have d2 : wr.cell? ⟨w4.heap.size, 2, none⟩ = some (.int .i64 v2) := (cell_row (j := 2) FG'.out).trans rfl
      have d3 : wr.cell? ⟨w4.heap.size, 3, none⟩ = some (.int .i64 v3) := (cell_row (j := 3) FG'.out).trans rfl
      have d4 : wr.cell? ⟨w4.heap.size, 4, none⟩ = some (.int .i64 v4) := (cell_row (j := 4) FG'.out).trans rfl
      have d5 : wr.cell? ⟨w4.heap.size, 5, none⟩ = some (.int .i64 v5) := (cell_row (j := 5) FG'.out).trans rfl
      go_wp2_with (refine wpList_store_at rfl 46 (.tmp 6) (.tmp 96) rfl rfl rfl FB.out size46 rfl rfl rfl ?_)
      refine bodyPost_ret (results_at2 rfl rfl (setRow_heap _ _ _ _ _ _ FB.out) Try.underlying46 rfl size46 rfl) rfl ?_
      exact ⟨by rw [HALLG.out]; rfl, below_setRow HBR.out (by omega) _⟩
end Go.Proofs.Yteoikaedpgianaa
