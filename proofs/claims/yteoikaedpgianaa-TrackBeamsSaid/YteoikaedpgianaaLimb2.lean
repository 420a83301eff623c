/- The reference's numbers: made from a machine's number. -/
import Derived.Test.YteoikaedpgianaaLimb
import Derived.Test.YteoikaedpgianaaExt
import Derived.Test.YteoikaedpgianaaBeam
namespace Go.Proofs.Yteoikaedpgianaa
open Go.RowKit Limb

theorem i64_at {w : World} {x : Nat} {z : Int} (hz : z = x) : ∀ (j : Nat) (u : Value), (i64s [x])[j]? = some u → (w.alloc (.cells #[.int .i64 z] 3)).cell? ((⟨w.heap.size, 0, none⟩ : Addr).add j) = some u := by
  subst hz
  intro j u hj
  match j, hj with
  | 0, hj =>
    simp [i64s] at hj
    subst hj
    simp [Addr.add]
theorem grown_below3 {B : Nat} {w wr w' : World} {v : Value} {o : Obj} {e : TypeId} {s n : Nat} {xs : List Value} (hB : Below B w wr) (ho : wr.ownsRow B e s v n xs) (hg : (wr.alloc o).grownBy w' v.ownBlock) (hs : B ≤ wr.heap.size) : Below B w w' :=
  (hB.alloc hs o).grown hg (by simp; omega) (fun k hk => (ho.lt k hk).1)
theorem own_base3 {w : World} {B B' n : Nat} {v : Value} {xs : List Value} (h : w.ownsRow B 3 1 v n xs) (hB : B' ≤ B) : w.ownsRow B' 3 1 v n xs := by
  obtain ⟨h1, h2⟩ := h
  refine ⟨h1, ?_⟩
  rcases h2 with h2 | ⟨g, cap, cur, hv, hg, h3⟩
  · exact Or.inl h2
  · exact Or.inr ⟨g, cap, cur, hv, by omega, h3⟩


/-- a number in a row of one's own -/
def NatIn (B : Nat) (W : World) (v : Value) (m : Nat) : Prop := W.ownsRow B 3 1 v (natL m).length (i64s (natL m))
theorem NatIn.at {B m : Nat} {W : World} {v : Value} (h : NatIn B W v m) : NatAt W v m := own_base3 h (Nat.zero_le _)
theorem NatIn.grow {B m : Nat} {W W' : World} {v : Value} (h : NatIn B W v m) (hB : Below W.heap.size W W') : NatIn B W' v m := own_grow hB h
theorem NatIn.low {B B' m : Nat} {W : World} {v : Value} (h : NatIn B W v m) (hB : B' ≤ B) : NatIn B' W v m := own_base3 h hB
theorem own_set {w : World} {B n g : Nat} {v : Value} {xs : List Value} {cs : Array Value} (h : w.ownsRow B 3 1 v n xs) (hg : g < B) : (w.setRow g cs).ownsRow B 3 1 v n xs := by
  obtain ⟨h1, h2⟩ := h
  refine ⟨h1, ?_⟩
  rcases h2 with h2 | ⟨g', cap, cur, hv, hg', hr, h3⟩
  · exact Or.inl h2
  · refine Or.inr ⟨g', cap, cur, hv, hg', ?_, h3⟩
    show (w.heap.modify g _)[g']? = _
    rw [Array.getElem?_modify, if_neg (by omega)]
    exact hr
theorem size33 : (Try.prog.info? 33).map (·.size) = some 2 := by kernel_rfl
theorem natL4 {n : Nat} (h : n ≤ 9223372036854775808) : (natL n).length ≤ 4 := natL_length_le.2 (by omega)
set_option maxRecDepth 100000 in
theorem small_any (z : Int) (w : World) (hz : -9223372036854775808 ≤ z ∧ z ≤ 9223372036854775807) :
    Calls Try.prog 78 #[.int .i64 z] w fun r w' => (∃ v, r = .returned (.agg #[.bool (decide (z < 0)), v]) ∧ NatIn w.heap.size w' v z.natAbs) ∧ Below w.heap.size w w' := by
  obtain ⟨i0, hi, hz0, hz1, hz2⟩ := info_parts info3
  have HI := hid hi
  have HZ0 := hid hz0
  have HZ1 := hid hz1
  have HZ2 := hid hz2
  clear hi hz0 hz1 hz2
  by_cases hneg : z < 0
  · have hw1 : IntKind.u64.wrap z = z + 18446744073709551616 := by rw [IntKind.wrap_u64]; omega
    have hw2 : IntKind.u64.wrap (-(z + 18446744073709551616)) = ((z.natAbs : Nat) : Int) := by rw [IntKind.wrap_u64]; omega
    have hdn : decide (z < 0) = true := by simp [hneg]
    go_enter Try.func78, Try.ntmps78
    go_wp2_with fail
    go_loopw [3, 4] (fun q v wr => ∃ (k : Nat) (ys : List Nat), k ≤ z.natAbs ∧ q = .int .u64 k ∧ natL z.natAbs = ys ++ natL k ∧ wr.ownsRow (w.heap.size + 1) 3 1 v ys.length (i64s ys) ∧ Below (w.heap.size + 1) (w.alloc (.cells #[.bool false, .slice none 0 0] 33)) wr) (fun q _ _ => (intOf q).toNat)
    case atStart => exact ⟨z.natAbs, [], Nat.le_refl _, rfl, rfl, World.ownsRow_nil _ _ _ _, Below.refl _ _⟩
    case round =>
      obtain ⟨k, ys, hk, rfl, he, hown2, hB⟩ := hrel
      have hz2 := hB.size
      simp at hz2
      have hle : ys.length ≤ 4 := by
        have h1 := congrArg List.length he
        have h2 := natL4 (n := z.natAbs) (by omega)
        simp at h1
        omega
      have HB2 := hid hB
      have HO2 := hid hown2
      rcases Nat.eq_zero_or_pos k with rfl | hp
      · have HE := hid (show natL z.natAbs = ys by rw [he, natL_zero, List.append_nil])
        have HR := hid (heap_below hB (by simp) (heap_alloc_at _ _ _ rfl) : wr.heap[w.heap.size]? = some (.cells #[.bool false, .slice none 0 0] 33))
        have hf0 : wr.frozen? ⟨w.heap.size, 0, none⟩ = false := by have hh := HR.out; simp [World.frozen?, hh]
        have hf1 : wr.frozen? ⟨w.heap.size, 1, none⟩ = false := by have hh := HR.out; simp [World.frozen?, hh]
        have hc0 : wr.cell? ⟨w.heap.size, 0, none⟩ = some (.bool false) := (cell_row (j := 0) HR.out).trans rfl
        have hc1 : wr.cell? ⟨w.heap.size, 1, none⟩ = some (.slice none 0 0) := (cell_row (j := 1) HR.out).trans rfl
        obtain ⟨a, cap, rfl, hn, hsh, _⟩ := own_open hown2
        clear he hB hown2
        go_wp2_with (refine wpList_store_at rfl 33 (.tmp 2) (.tmp 24) rfl rfl rfl HR.out size33 rfl rfl rfl ?_)
        refine bodyPost_ret (results_at1 rfl rfl (setRow_heap _ _ _ _ _ _ HR.out) Try.underlying33 rfl size33 rfl) rfl ?_
        refine ⟨⟨_, rfl, ?_⟩, ?_⟩
        · unfold NatIn
          rw [HE.out]
          exact own_base3 (own_set HO2.out (Nat.lt_succ_self _)) (Nat.le_succ _)
        · have hB0 := HB2.out
          refine below_setRow (Below.trans ((Below.refl _ _).alloc (Nat.le_refl _) _) (hB0.mono (Nat.le_succ _))) (Nat.le_refl _) _
      · have HE := hid (show natL z.natAbs = (ys ++ [k % 65536]) ++ natL (k / 65536) by rw [he, natL_pos (by omega)]; simp)
        clear he hB hown2
        go_wp2_with (at_builtin; refine wpList_append_own _ rfl (.tmp 13) (.tmp 17) 31 rfl (w.heap.size + 1) 3 i0 (.int .i64 0) 1 8 Try.underlying31 HI.out HZ0.out HZ1.out HZ2.out rfl (by decide) _ ys.length (i64s ys) rfl (HO2.out.alloc _) ⟨wr.heap.size, 0, none⟩ 1 1 (i64s [k % 65536]) rfl rfl (i64_at (by omega)) (i64s_one _) (by unfold maxLen; omega) (by omega) (by simp; omega) ?_; intro v' w2 hown3 hgrow3 hnil3)
        have hb3 := grown_below3 HB2.out HO2.out hgrow3 hz2
        rw [← i64s_append, show ys.length + 1 = (ys ++ [k % 65536]).length by simp] at hown3
        have HB3 := hid hb3
        have HO3 := hid hown3
        clear hb3 hown3 hgrow3 hnil3
        go_wp2_with fail
        go_roundw
        case rel => exact ⟨k / 65536, ys ++ [k % 65536], by omega, by go_num, HE.out, HO3.out, HB3.out⟩
        case measure => (try simp [intOf]); (try omega)
  · have hw1 : IntKind.u64.wrap z = ((z.natAbs : Nat) : Int) := by rw [IntKind.wrap_u64]; omega
    have hdn : decide (z < 0) = false := by simp [hneg]
    go_enter Try.func78, Try.ntmps78
    go_wp2_with fail
    go_loopw [3, 4] (fun q v wr => ∃ (k : Nat) (ys : List Nat), k ≤ z.natAbs ∧ q = .int .u64 k ∧ natL z.natAbs = ys ++ natL k ∧ wr.ownsRow (w.heap.size + 1) 3 1 v ys.length (i64s ys) ∧ Below (w.heap.size + 1) (w.alloc (.cells #[.bool false, .slice none 0 0] 33)) wr) (fun q _ _ => (intOf q).toNat)
    case atStart => exact ⟨z.natAbs, [], Nat.le_refl _, rfl, rfl, World.ownsRow_nil _ _ _ _, Below.refl _ _⟩
    case round =>
      obtain ⟨k, ys, hk, rfl, he, hown2, hB⟩ := hrel
      have hz2 := hB.size
      simp at hz2
      have hle : ys.length ≤ 4 := by
        have h1 := congrArg List.length he
        have h2 := natL4 (n := z.natAbs) (by omega)
        simp at h1
        omega
      have HB2 := hid hB
      have HO2 := hid hown2
      rcases Nat.eq_zero_or_pos k with rfl | hp
      · have HE := hid (show natL z.natAbs = ys by rw [he, natL_zero, List.append_nil])
        have HR := hid (heap_below hB (by simp) (heap_alloc_at _ _ _ rfl) : wr.heap[w.heap.size]? = some (.cells #[.bool false, .slice none 0 0] 33))
        have hf0 : wr.frozen? ⟨w.heap.size, 0, none⟩ = false := by have hh := HR.out; simp [World.frozen?, hh]
        have hf1 : wr.frozen? ⟨w.heap.size, 1, none⟩ = false := by have hh := HR.out; simp [World.frozen?, hh]
        have hc0 : wr.cell? ⟨w.heap.size, 0, none⟩ = some (.bool false) := (cell_row (j := 0) HR.out).trans rfl
        have hc1 : wr.cell? ⟨w.heap.size, 1, none⟩ = some (.slice none 0 0) := (cell_row (j := 1) HR.out).trans rfl
        obtain ⟨a, cap, rfl, hn, hsh, _⟩ := own_open hown2
        clear he hB hown2
        go_wp2_with (refine wpList_store_at rfl 33 (.tmp 2) (.tmp 24) rfl rfl rfl HR.out size33 rfl rfl rfl ?_)
        refine bodyPost_ret (results_at1 rfl rfl (setRow_heap _ _ _ _ _ _ HR.out) Try.underlying33 rfl size33 rfl) rfl ?_
        refine ⟨⟨_, rfl, ?_⟩, ?_⟩
        · unfold NatIn
          rw [HE.out]
          exact own_base3 (own_set HO2.out (Nat.lt_succ_self _)) (Nat.le_succ _)
        · have hB0 := HB2.out
          refine below_setRow (Below.trans ((Below.refl _ _).alloc (Nat.le_refl _) _) (hB0.mono (Nat.le_succ _))) (Nat.le_refl _) _
      · have HE := hid (show natL z.natAbs = (ys ++ [k % 65536]) ++ natL (k / 65536) by rw [he, natL_pos (by omega)]; simp)
        clear he hB hown2
        go_wp2_with (at_builtin; refine wpList_append_own _ rfl (.tmp 13) (.tmp 17) 31 rfl (w.heap.size + 1) 3 i0 (.int .i64 0) 1 8 Try.underlying31 HI.out HZ0.out HZ1.out HZ2.out rfl (by decide) _ ys.length (i64s ys) rfl (HO2.out.alloc _) ⟨wr.heap.size, 0, none⟩ 1 1 (i64s [k % 65536]) rfl rfl (i64_at (by omega)) (i64s_one _) (by unfold maxLen; omega) (by omega) (by simp; omega) ?_; intro v' w2 hown3 hgrow3 hnil3)
        have hb3 := grown_below3 HB2.out HO2.out hgrow3 hz2
        rw [← i64s_append, show ys.length + 1 = (ys ++ [k % 65536]).length by simp] at hown3
        have HB3 := hid hb3
        have HO3 := hid hown3
        clear hb3 hown3 hgrow3 hnil3
        go_wp2_with fail
        go_roundw
        case rel => exact ⟨k / 65536, ys ++ [k % 65536], by omega, by go_num, HE.out, HO3.out, HB3.out⟩
        case measure => (try simp [intOf]); (try omega)
end Go.Proofs.Yteoikaedpgianaa
