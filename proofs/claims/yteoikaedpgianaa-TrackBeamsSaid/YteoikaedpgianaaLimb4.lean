/- The reference's numbers: products of natural numbers, and quotients by one limb. -/
import Derived.Test.YteoikaedpgianaaLimb3
import Derived.Test.YteoikaedpgianaaLink
import Derived.Laws.OwnMore
namespace Go.Proofs.Yteoikaedpgianaa
open Go.RowKit Limb

/-- a block that holds these limbs -/
def RowAt (W : World) (g : Nat) (o : List Nat) : Prop := W.heap[g]? = some (.cells (i64s o).toArray 3 (0, 0))
theorem RowAt.cell {W : World} {g j : Nat} {o : List Nat} (h : RowAt W g o) (hj : j < o.length) : W.cell? ⟨g, j, none⟩ = some (.int .i64 ((o.getD j 0 : Nat) : Int)) := by
  unfold RowAt at h
  simp [World.cell?, h, i64s, List.getD_eq_getElem?_getD, List.getElem?_eq_getElem hj]
theorem RowAt.free {W : World} {g j : Nat} {o : List Nat} (h : RowAt W g o) : W.frozen? ⟨g, j, none⟩ = false := by
  unfold RowAt at h
  simp [World.frozen?, h]
theorem RowAt.lt {W : World} {g : Nat} {o : List Nat} (h : RowAt W g o) : g < W.heap.size := (Array.getElem?_eq_some_iff.1 h).1
theorem RowAt.set {W : World} {g j x : Nat} {z : Int} {o : List Nat} (h : RowAt W g o) (hz : z = x) : RowAt (W.setCell ⟨g, j, none⟩ (.int .i64 z)) g (o.set j x) := by
  subst hz
  unfold RowAt at *
  simp only [World.setCell, Array.getElem?_modify]
  rw [if_pos trivial, h]
  simp [i64s, List.map_set]
theorem RowAt.grow {W W' : World} {g : Nat} {o : List Nat} (h : RowAt W g o) (hB : Below W.heap.size W W') : RowAt W' g o := heap_still hB h
theorem RowAt.drew {W : World} {g : Nat} {o : List Nat} (h : RowAt W g o) : RowAt W.drew g o := h
theorem RowAt.own {W : World} {B g : Nat} {o : List Nat} (h : RowAt W g o) (hB : B ≤ g) (hl : o.length ≤ 1000000) : W.ownsRow B 3 1 (.slice (some ⟨g, 0, none⟩) o.length o.length) o.length (i64s o) := by
  refine ⟨by simp [i64s], Or.inr ⟨g, o.length, _, rfl, hB, h, Nat.le_refl _, by unfold maxLen; omega, by simp [i64s], ?_⟩⟩
  rw [List.toList_toArray, Nat.mul_one, ← i64s_len o, List.take_length]
theorem row_made (W : World) (n : Nat) : RowAt (W.alloc (.cells (madeCells #[.int .i64 0] n) 3)) W.heap.size (List.replicate n 0) := by
  refine (heap_alloc_at _ _ _ rfl).trans ?_
  congr 2
  apply Array.ext'
  rw [toList_madeCells_one]
  simp [i64s]
theorem getD_set_ne {o : List Nat} {i j x : Nat} (h : i ≠ j) : (o.set i x).getD j 0 = o.getD j 0 := by
  rw [List.getD_eq_getElem?_getD, List.getD_eq_getElem?_getD, List.getElem?_set_ne h]
theorem lt_set {o : List Nat} {i x : Nat} (h : ∀ y ∈ o, y < 65536) (hx : x < 65536) : ∀ y ∈ o.set i x, y < 65536 := by
  intro y hy
  rcases List.mem_or_eq_of_mem_set hy with h1 | rfl
  · exact h y h1
  · exact hx
theorem getD_lt {o : List Nat} (h : ∀ y ∈ o, y < 65536) (j : Nat) : o.getD j 0 < 65536 := by
  rw [List.getD_eq_getElem?_getD]
  rcases Nat.lt_or_ge j o.length with hj | hj
  · rw [List.getElem?_eq_getElem hj]; exact h _ (List.getElem_mem hj)
  · rw [List.getElem?_eq_none hj]; decide

set_option maxRecDepth 100000 in
set_option maxHeartbeats 800000 in
theorem mul_any (m n : Nat) (va vb : Value) (w : World) (ha : NatAt w va m) (hb : NatAt w vb n) (hla : (natL m).length ≤ 100000) (hlb : (natL n).length ≤ 100000) :
    Calls Try.prog 82 #[va, vb] w fun r w' => (∃ v, r = .returned v ∧ NatIn w.heap.size w' v (m * n)) ∧ Below w.heap.size w w' := by
  obtain ⟨i0, hi, hz0, hz1, hz2⟩ := info_parts info3
  have HI := hid hi
  have HZ0 := hid hz0
  have HZ1 := hid hz1
  have HZ2 := hid hz2
  clear hi hz0 hz1 hz2
  obtain ⟨a, ca, rfl, hsa, hra⟩ := ha.open
  obtain ⟨b, cb, rfl, hsb, hrb⟩ := hb.open
  have HA := hid hra
  have HB := hid hrb
  obtain ⟨p, hp⟩ : ∃ p, (natL m).length = p := ⟨_, rfl⟩
  obtain ⟨q, hq⟩ : ∃ q, (natL n).length = q := ⟨_, rfl⟩
  rw [hp] at hla HA hsa ⊢
  rw [hq] at hlb HB hsb ⊢
  have HP := hid (show m < 65536 ^ p from natL_length_le.1 (by omega))
  have HQ := hid hq
  clear ha hb hra hrb hp hq
  go_enter Try.func82, Try.ntmps82
  go_wp2_with (refine wpList_make_lc _ rfl (.tmp 14) (.tmp 14) 31 rfl 3 i0 (.int .i64 0) Try.underlying31 HI.out HZ0.out HZ1.out rfl .i64 .i64 ((p : Int) + (q : Int)) ((p : Int) + (q : Int)) (p + q) (p + q) rfl rfl (by omega) (by omega) (Nat.le_refl _) (by rw [HZ2.out]; omega) (by omega) ?_)
  have HR0 := hid (row_made w (p + q))
  have HB0 := hid ((Below.refl w.heap.size w).alloc (Nat.le_refl _) (.cells (madeCells #[.int .i64 0] (p + q)) 3))
  refine gen_world (fun W hW => ?_)
  rw [← hW] at HR0 HB0
  clear hW
  go_loopw [6] (fun iv wr => ∃ (i : Nat) (o : List Nat), i ≤ p ∧ iv = .int .i64 i ∧ o.length = p + q ∧ (∀ x ∈ o, x < 65536) ∧ (∀ j, i + q ≤ j → o.getD j 0 = 0) ∧ val o = m % 65536 ^ i * n ∧ RowAt wr w.heap.size o ∧ Below w.heap.size w wr) (fun i _ => p - (intOf i).toNat)
  case atStart => exact ⟨0, List.replicate (p + q) 0, by omega, rfl, by simp, by intro x hx; simp at hx; omega, by intro j hj; simp [List.getD_eq_getElem?_getD, List.getElem?_replicate]; split <;> rfl, by rw [val_replicate_zero]; simp [Nat.mod_one], HR0.out, HB0.out⟩
  case round =>
    obtain ⟨i, o, hi, rfl, hol, holt, hz, hv, hrow, hB⟩ := hrel
    by_cases h1 : i < p
    · have hd1 := digit_lt m i
      have HLAST := hid (fun c o hij hz h => mul_last (m := m) (n := n) (i := i) (c := c) (o := o) HQ.out hij hz h)
      generalize hx : m / 65536 ^ i % 65536 = x at *
      generalize hM : m % 65536 ^ i * n = M at *
      have HAI : Hid (∀ W', Below w.heap.size w W' → ∃ g, a = some ⟨g, 0, none⟩ ∧ g < w.heap.size ∧ W'.cell? ⟨g, i, none⟩ = some (.int .i64 ((x : Nat) : Int))) := hid (fun W' hW' => by
        obtain ⟨g, j1, j2, j3⟩ := HA.out W' hW' i h1
        exact ⟨g, j1, j2, j3.trans (by show some (Value.int .i64 ((m / 65536 ^ i % 65536 : Nat) : Int)) = _; rw [hx])⟩)
      have HST := hid (show val o + 0 * 65536 ^ (i + 0) = M + x * (65536 ^ i * (n % 65536 ^ 0)) by rw [hv]; simp [Nat.mod_one])
      have HO := hid (And.intro hol (And.intro holt (And.intro hz (And.intro hrow hB))))
      clear hol holt hz hrow hB hv hx hM
      go_wp2_with fail
      go_loopw [7, 8] (fun cv jv wr => ∃ (j c : Nat) (o : List Nat), j ≤ q ∧ jv = .int .i64 j ∧ cv = .int .i64 c ∧ c < 65536 ∧ o.length = p + q ∧ (∀ x ∈ o, x < 65536) ∧ (∀ j, i + q ≤ j → o.getD j 0 = 0) ∧ val o + c * 65536 ^ (i + j) = M + x * (65536 ^ i * (n % 65536 ^ j)) ∧ RowAt wr w.heap.size o ∧ Below w.heap.size w wr) (fun _ j _ => q - (intOf j).toNat)
      case atStart => exact ⟨0, 0, o, by omega, rfl, rfl, by omega, HO.out.1, HO.out.2.1, HO.out.2.2.1, HST.out, HO.out.2.2.2.1, HO.out.2.2.2.2⟩
      case round =>
        obtain ⟨j, c, o2, hj, rfl, rfl, hc, hol, holt, hz, hv, hrow, hB⟩ := hrel
        clear HO HST
        by_cases h2 : j < q
        · obtain ⟨g, rfl, hg, hca⟩ := HAI.out _ hB
          obtain ⟨g', rfl, hg', hcb⟩ := HB.out _ hB j h2
          have hcr := hrow.cell (j := i + j) (by omega)
          have hfr := hrow.free (j := i + j)
          have hd3 := getD_lt holt (i + j)
          have hd2 := digit_lt n j
          have HM := hid (fun (s : Nat) hs => mul_step (m := M) (n := n) (i := i) (j := j) (x := x) (by omega) hv (s := s) hs)
          simp only at hca hcb
          generalize n / 65536 ^ j % 65536 = y at *
          have HZ := hid hz
          have HLT := hid holt
          have HROW := hid hrow
          have HBW := hid hB
          have hsz := hB.size
          generalize o2.getD (i + j) 0 = z at *
          have hxy : x * y ≤ 65535 * 65535 := Nat.mul_le_mul (by omega) (by omega)
          have hxc : (x : Int) * (y : Int) = ((x * y : Nat) : Int) := by simp
          have hb1 : 0 ≤ (x : Int) * (y : Int) ∧ (x : Int) * (y : Int) ≤ 4294836225 := by rw [hxc]; omega
          have hrl := hrow.lt
          clear hz holt hrow hB hv hxc
          go_wp2_with fail
          go_quiet (fail)
          go_wp2_with fail
          go_roundw
          case rel => exact ⟨j + 1, (x * y + z + c) / 65536, o2.set (i + j) ((x * y + z + c) % 65536), by omega, by go_num, by go_num, by omega, by rw [List.length_set]; omega, lt_set HLT.out (by omega), fun k hk => by rw [getD_set_ne (by omega)]; exact HZ.out k hk, HM.out _ (by omega), RowAt.set HROW.out (by go_num), by have hB0 := HBW.out; (repeat' (first | (with_reducible exact Below.refl _ _) | (with_reducible assumption) | (with_reducible refine Below.alloc ?_ ?_ _) | (with_reducible refine Below.drew ?_) | (with_reducible refine below_drewN ?_ _) | (with_reducible refine Below.setCell ?_ ?_ _) | (with_reducible refine below_setRow ?_ ?_ _) | go_size))⟩
          case measure => (try simp [intOf]); (try omega)
        · obtain rfl : j = q := by omega
          have hcr := hrow.cell (j := i + j) (by omega)
          have hfr := hrow.free (j := i + j)
          have HV := hid (HLAST.out c o2 (by omega) (hz _ (Nat.le_refl _)) hv)
          have HZ := hid hz
          have HLT := hid holt
          have HROW := hid hrow
          have HBW := hid hB
          have hsz := hB.size
          have hrl := hrow.lt
          clear hz holt hrow hB hv
          go_wp2_with fail
          go_roundw
          case rel => exact ⟨i + 1, o2.set (i + j) c, by omega, by go_num, by rw [List.length_set]; omega, lt_set HLT.out (by omega), fun k hk => by rw [getD_set_ne (by omega)]; exact HZ.out k (by omega), HV.out, RowAt.set HROW.out rfl, by have hB0 := HBW.out; (repeat' (first | (with_reducible exact Below.refl _ _) | (with_reducible assumption) | (with_reducible refine Below.alloc ?_ ?_ _) | (with_reducible refine Below.drew ?_) | (with_reducible refine below_drewN ?_ _) | (with_reducible refine Below.setCell ?_ ?_ _) | (with_reducible refine below_setRow ?_ ?_ _) | go_size))⟩
          case measure => (try simp [intOf]); (try omega)
    · obtain rfl : i = p := by omega
      have HV := hid (show val o = m * n by rw [hv, Nat.mod_eq_of_lt HP.out])
      have HO := hid (RowAt.own hrow (Nat.le_refl _) (by omega))
      have HLT := hid holt
      have HBW := hid hB
      rw [hol] at HO
      clear hz holt hrow hB hv
      go_wp2_with fail
      refine (trim_any w.heap.size (i + q) _ o wr HO.out HLT.out).mono ?_
      rintro r w2 ⟨⟨v', rfl, hown⟩, rfl⟩
      go_wp2_with fail
      go_ret
      rw [HV.out] at hown
      exact ⟨⟨_, rfl, hown⟩, HBW.out⟩
end Go.Proofs.Yteoikaedpgianaa
