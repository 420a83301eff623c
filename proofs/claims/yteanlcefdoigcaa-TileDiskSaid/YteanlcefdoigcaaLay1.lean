/- The layout of one point. The law's own test that the program lays out one point as it should. -/
import Derived.Test.YteanlcefdoigcaaValid
import Derived.Test.YteanlcefdoigcaaMaps
import Derived.Test.YteanlcefdoigcaaKeys
namespace Go.Proofs.Yteanlcefdoigcaa
open Go.RowKit Go.Maps

theorem law39 : Keyed Try.prog 39 := Keyed.of_law (deep_law_laid (by kernel_rfl) (m := 2) (by omega) (of_decide_eq_true (by kernel_rfl)) (by kernel_rfl) (by kernel_rfl))
theorem zero22 (w : World) : (zeroValue 22).run Try.prog w = .ok (.slice none 0 0) w := by kernel_rfl
theorem made129 (W : World) : (Instr.makeMap 129 none).run Try.prog W = .ok (.map (some W.heap.size)) (W.alloc (.map #[] 0)) := by
  simp [Instr.makeMap, newObj]
  rfl
theorem clone_one (b off c : Nat) (F : Nat → Nat → Int) (w : World) (hbw : b < w.heap.size) (hr : recs9 w b off 1 F) :
    Calls Try.prog 94 #[.slice (some ⟨b, off, none⟩) 1 c] w fun r w' => (∃ g cap, r = .returned (.slice (some ⟨g, 0, none⟩) 1 cap) ∧ w.heap.size ≤ g ∧ g < w'.heap.size ∧ recs9 w' g 0 1 F) ∧ Below w.heap.size w w' := by
  refine (clone_any b off 1 c F w (by omega) hbw hr).mono ?_
  rintro r w1 ⟨⟨v, rfl, hv⟩, hb⟩
  have hl : ptRows (ptList F 1) = [ptRow (F 0)] := rfl
  rw [hl] at hv
  obtain ⟨g, cap, cur, rfl, hgb, hg, hrows, hcap, hcm, hcs⟩ := hv.rows (by simp)
  refine ⟨⟨g, cap, rfl, hgb, (Array.getElem?_eq_some_iff.1 hg).1, fun i hi j hj => ?_⟩, hb⟩
  obtain rfl : i = 0 := by omega
  rw [hrows 0 _ rfl j hj, ptRow_at _ _ hj]
theorem own_one {W : World} {base t sz : Nat} {v : Value} {r : List Value} (h : OwnR W base t sz v [r]) : ∃ g cap, v = .slice (some ⟨g, 0, none⟩) 1 cap ∧ base ≤ g ∧ g < W.heap.size ∧ RowsAt W g 0 sz [r] := by
  obtain ⟨g, cap, cur, rfl, hgb, hg, hrows, hcap, hcm, hcs⟩ := h.rows (by simp)
  exact ⟨g, cap, rfl, hgb, (Array.getElem?_eq_some_iff.1 hg).1, hrows⟩
theorem RowsAt.one {W : World} {g sz : Nat} {C : Array Value} {t : TypeId} {fr : Nat × Nat} (h : W.heap[g]? = some (.cells C t fr)) : RowsAt W g 0 sz [C.toList] := fun i r hi j hj => by
  cases i with
  | zero =>
    simp at hi
    subst hi
    rw [cell_row h]
    simp only [Nat.zero_mul, Nat.zero_add]
    exact Array.getElem?_toList.symm
  | succ i => simp at hi
theorem wide9 (p0 p1 p2 p3 p4 p5 p6 p7 p8 : Int) : Wide 9 [[Value.int .i64 p0, .int .i64 p1, .int .i64 p2, .int .i64 p3, .int .i64 p4, .int .i64 p5, .int .i64 p6, .int .i64 p7, .int .i64 p8]] := by
  refine Wide.one rfl (fun u hu => ?_)
  simp at hu
  rcases hu with rfl | rfl | rfl | rfl | rfl | rfl | rfl | rfl | rfl <;> rfl
theorem only_key {kl x : Lit} {u v y : Value} (h : putG (putG (fun _ => none) kl u) kl v x = some y) : x = kl ∧ y = v := by
  by_cases hx : x = kl
  · subst hx
    unfold putG at h
    by_cases hs : x.sameKey x = true
    · simp [hs] at h
      exact ⟨rfl, h.symm⟩
    · simp [hs] at h
  · rw [putG_other hx, putG_other hx] at h
    simp at h
theorem base_alloc {n : Nat} {W : World} (h : n ≤ W.heap.size) (o : Obj) : n ≤ (W.alloc o).heap.size := by
  simp
  omega
theorem RowsAt.kept {W W' : World} {b off sz : Nat} {l : List (List Value)} {row : Option Nat} (h : RowsAt W b off sz l) (hg : W.grownBy W' row) (hne : some b ≠ row) (hb : b < W.heap.size) : RowsAt W' b off sz l := fun i r hi j hj => by
  rw [World.cell?_of_block (w := W) (hg.block b hb hne)]
  exact h i r hi j hj
theorem info49 : (Try.prog.info? 49).map (fun i => (i.zero, i.size, i.bytes)) = some (some (.agg #[.int .i64 0, .int .i64 0, .int .i64 0, .int .i64 0, .slice none 0 0]), 5, 56) := by kernel_rfl
theorem wide5 (a b c d : Int) (ad : Option Addr) (n m : Nat) : Wide 5 [[Value.int .i64 a, .int .i64 b, .int .i64 c, .int .i64 d, .slice ad n m]] := by
  refine Wide.one rfl (fun u hu => ?_)
  simp at hu
  rcases hu with rfl | rfl | rfl | rfl | rfl <;> rfl
theorem idx0 (n : Int) (h : -268435456 ≤ n ∧ n ≤ 268435456) : idxV n 0 = 0 := by
  have e : idxV n 0 = min ((n + 268435456) / 536870912) 0 := rfl
  rw [e]
  omega
theorem cell0_any (id x y zl zh wd nm of cl : Int) (hx : -268435456 ≤ x ∧ x ≤ 268435456) (hy : -268435456 ≤ y ∧ y ≤ 268435456) (hz : -268435456 ≤ zl ∧ zl ≤ 268435456) (w : World) :
    Calls Try.prog 52 #[.agg #[.int .i64 id, .int .i64 x, .int .i64 y, .int .i64 zl, .int .i64 zh, .int .i64 wd, .int .i64 nm, .int .i64 of, .int .i64 cl], .int .i64 0] w fun e w' => e = .returned (.agg #[.int .i64 0, .int .i64 0, .int .i64 0, .int .i64 0]) ∧ Below w.heap.size w w' := by
  have h := xCell_any id x y zl zh wd nm of cl 0 (by omega) hx hy hz w
  unfold cellC at h
  rw [idx0 x hx, idx0 y hy, idx0 zl hz] at h
  exact h
set_option maxRecDepth 100000 in
set_option maxHeartbeats 1600000 in
theorem lay1_any (b off cc : Nat) (F : Nat → Nat → Int) (w : World) (hbw : b < w.heap.size) (hr : recs9 w b off 1 F) (hx : -268435456 ≤ F 0 1 ∧ F 0 1 ≤ 268435456) (hy : -268435456 ≤ F 0 2 ∧ F 0 2 ≤ 268435456) (hz : -268435456 ≤ F 0 3 ∧ F 0 3 ≤ 268435456) :
    Calls Try.prog 49 #[.slice (some ⟨b, off, none⟩) 1 cc, .int .i64 1] w fun r w' => (∃ g cap g7 cap7, r = .returned (.slice (some ⟨g, 0, none⟩) 1 cap) ∧ RowsAt w' g 0 5 [[.int .i64 0, .int .i64 0, .int .i64 0, .int .i64 0, .slice (some ⟨g7, 0, none⟩) 1 cap7]] ∧ RowsAt w' g7 0 9 [ptRow (F 0)] ∧ w.heap.size ≤ g ∧ w.heap.size ≤ g7) ∧ Below w.heap.size w w' := by
  have HC := hid hr
  clear hr
  go_enter Try.func49, Try.ntmps49
  go_wp2_with fail
  refine (clone_one b off cc F w hbw HC.out).mono ?_
  rintro r w1 ⟨⟨g, cap, rfl, hgb, hg1, hrec⟩, hb1⟩
  have hs1 := hb1.size
  have HB1 := hid hb1
  have HR := hid hrec
  clear hb1 hrec
  go_wp2_with fail
  refine (sort1_point _ _ _ _).mono ?_
  rintro r w2 ⟨rfl, hb2⟩
  have HB2 := hid (HB1.out.trans (hb2.mono hs1))
  have HR2 := hid (HR.out.still hb2 hg1)
  have hs2 := hb2.size
  have hmk := made129
  clear hb2 HB1 HR
  go_wp2_with fail
  refine wp_loop_rounds 2 ?_
  rw [rounds_succ]
  go_wp2_with fail
  refine wp_loop_rounds 2 ?_
  rw [rounds_succ]
  refine gen_world (fun W3 hW3 => ?_)
  have hbb : Below w2.heap.size w2 W3 := by rw [hW3]; (repeat' (first | (with_reducible exact Below.refl _ _) | (with_reducible assumption) | (with_reducible refine Below.alloc ?_ ?_ _) | (with_reducible refine Below.drew ?_) | (with_reducible refine below_drewN ?_ _) | (with_reducible refine Below.setCell ?_ ?_ _) | (with_reducible refine below_setRow ?_ ?_ _) | go_size))
  have HM3 := hid (show MapAt Try.prog W3 39 w2.heap.size 0 (fun _ => none) by rw [hW3]; exact MapAt.made w2)
  have HR3 := hid (HR2.out.still hbb (by omega))
  have HB3 := hid (HB2.out.trans (hbb.mono (by omega)))
  have hs3 : W3.heap.size = w2.heap.size + 1 := by rw [hW3]; simp
  clear hW3 hbb HB2 HR2
  have hcs := HR3.out 0 (by omega)
  have c0 := hcs 0 (by decide)
  have c1 := hcs 1 (by decide)
  have c2 := hcs 2 (by decide)
  have c3 := hcs 3 (by decide)
  have c4 := hcs 4 (by decide)
  have c5 := hcs 5 (by decide)
  have c6 := hcs 6 (by decide)
  have c7 := hcs 7 (by decide)
  have c8 := hcs 8 (by decide)
  simp only [Nat.zero_mul, Nat.zero_add, Nat.add_zero] at c0 c1 c2 c3 c4 c5 c6 c7 c8
  clear hcs
  have HPR := hid (show ptRow (F 0) = [.int .i64 (F 0 0), .int .i64 (F 0 1), .int .i64 (F 0 2), .int .i64 (F 0 3), .int .i64 (F 0 4), .int .i64 (F 0 5), .int .i64 (F 0 6), .int .i64 (F 0 7), .int .i64 (F 0 8)] from rfl)
  generalize F 0 0 = p0 at *
  generalize F 0 1 = p1 at *
  generalize F 0 2 = p2 at *
  generalize F 0 3 = p3 at *
  generalize F 0 4 = p4 at *
  generalize F 0 5 = p5 at *
  generalize F 0 6 = p6 at *
  generalize F 0 7 = p7 at *
  generalize F 0 8 = p8 at *
  go_wp2_with fail
  refine (cell0_any _ _ _ _ _ _ _ _ _ hx hy hz _).mono ?_
  rintro r W4 ⟨rfl, hb4⟩
  have hP4 : W4.heap[w2.heap.size + 1]? = some (.cells #[.int .i64 p0, .int .i64 p1, .int .i64 p2, .int .i64 p3, .int .i64 p4, .int .i64 p5, .int .i64 p6, .int .i64 p7, .int .i64 p8] 36) := heap_still hb4 (heap_alloc_at _ _ _ hs3.symm)
  have hbb : Below W3.heap.size W3 W4 := ((Below.refl _ _).alloc (Nat.le_refl _) _).trans (hb4.mono (by simp))
  have HP4 := hid hP4
  have HM4 := hid (HM3.out.grow hbb)
  have HB4 := hid (HB3.out.trans (hbb.mono (by omega)))
  have hs4 := hb4.size
  simp at hs4
  clear hb4 hbb hP4 c0 c1 c2 c3 c4 c5 c6 c7 c8
  obtain ⟨kl, hkl⟩ : ∃ kl, keyOf Try.prog 39 (.agg #[.int .i64 0, .int .i64 0, .int .i64 0, .int .i64 0]) = some kl := Option.isSome_iff_exists.1 (by kernel_rfl)
  have HKL := hid hkl
  have hlook : (Instr.lookup 129 (.map (some w2.heap.size)) (.agg #[.int .i64 0, .int .i64 0, .int .i64 0, .int .i64 0]) false).run Try.prog (W4.alloc (.cells #[.int .i64 0, .int .i64 0, .int .i64 0, .int .i64 0] 39)) = .ok (.slice none 0 0) (W4.alloc (.cells #[.int .i64 0, .int .i64 0, .int .i64 0, .int .i64 0] 39)) := (HM4.out.grow ((Below.refl _ _).alloc (Nat.le_refl _) _)).look law39 Try.underlying129 (zero22 _) hkl
  have q0 : (W4.alloc (.cells #[.int .i64 0, .int .i64 0, .int .i64 0, .int .i64 0] 39)).cell? ⟨w2.heap.size + 1, 0, none⟩ = some (.int .i64 p0) := (cell_row (j := 0) (heap_alloc_past _ _ _ _ HP4.out)).trans rfl
  have q1 : (W4.alloc (.cells #[.int .i64 0, .int .i64 0, .int .i64 0, .int .i64 0] 39)).cell? ⟨w2.heap.size + 1, 1, none⟩ = some (.int .i64 p1) := (cell_row (j := 1) (heap_alloc_past _ _ _ _ HP4.out)).trans rfl
  have q2 : (W4.alloc (.cells #[.int .i64 0, .int .i64 0, .int .i64 0, .int .i64 0] 39)).cell? ⟨w2.heap.size + 1, 2, none⟩ = some (.int .i64 p2) := (cell_row (j := 2) (heap_alloc_past _ _ _ _ HP4.out)).trans rfl
  have q3 : (W4.alloc (.cells #[.int .i64 0, .int .i64 0, .int .i64 0, .int .i64 0] 39)).cell? ⟨w2.heap.size + 1, 3, none⟩ = some (.int .i64 p3) := (cell_row (j := 3) (heap_alloc_past _ _ _ _ HP4.out)).trans rfl
  have q4 : (W4.alloc (.cells #[.int .i64 0, .int .i64 0, .int .i64 0, .int .i64 0] 39)).cell? ⟨w2.heap.size + 1, 4, none⟩ = some (.int .i64 p4) := (cell_row (j := 4) (heap_alloc_past _ _ _ _ HP4.out)).trans rfl
  have q5 : (W4.alloc (.cells #[.int .i64 0, .int .i64 0, .int .i64 0, .int .i64 0] 39)).cell? ⟨w2.heap.size + 1, 5, none⟩ = some (.int .i64 p5) := (cell_row (j := 5) (heap_alloc_past _ _ _ _ HP4.out)).trans rfl
  have q6 : (W4.alloc (.cells #[.int .i64 0, .int .i64 0, .int .i64 0, .int .i64 0] 39)).cell? ⟨w2.heap.size + 1, 6, none⟩ = some (.int .i64 p6) := (cell_row (j := 6) (heap_alloc_past _ _ _ _ HP4.out)).trans rfl
  have q7 : (W4.alloc (.cells #[.int .i64 0, .int .i64 0, .int .i64 0, .int .i64 0] 39)).cell? ⟨w2.heap.size + 1, 7, none⟩ = some (.int .i64 p7) := (cell_row (j := 7) (heap_alloc_past _ _ _ _ HP4.out)).trans rfl
  have q8 : (W4.alloc (.cells #[.int .i64 0, .int .i64 0, .int .i64 0, .int .i64 0] 39)).cell? ⟨w2.heap.size + 1, 8, none⟩ = some (.int .i64 p8) := (cell_row (j := 8) (heap_alloc_past _ _ _ _ HP4.out)).trans rfl
  clear hkl
  obtain ⟨i0, hi, hz0, hz1, hz2⟩ := info_parts info36
  have HI := hid hi
  have HZ0 := hid hz0
  have HZ1 := hid hz1
  have HZ2 := hid hz2
  clear hi hz0 hz1 hz2
  have hzw := HB4.out.size
  have HZW := hid hzw
  have HZ4 := hid (show w2.heap.size + 1 < W4.heap.size by omega)
  go_wp2_with (first
    | (refine wpList_entry rfl (.tmp 48) (.tmp 49) 129 rfl law39 Try.underlying129 rfl (HM4.out.grow (((Below.refl _ _).alloc (Nat.le_refl _) _).alloc (by simp) _)) (by unfold maxLen; omega) (zero22 _) (.agg #[.int .i64 0, .int .i64 0, .int .i64 0, .int .i64 0]) kl rfl HKL.out ?_
       intro W6 s hm6 hg6 hp6
       have HRW := hid (RowsAt.one (sz := 9) ((hg6.block (W4.heap.size + 1) (by simp) (by intro h; injection h with h; have := HZ4.out; omega)).trans (heap_alloc_at _ _ _ (by simp))))
       have HS6 := hid (show w.heap.size ≤ W6.heap.size by have h1 := hg6.size; have h2 := HZW.out; simp at h1; omega)
       have HM6 := hid hm6
       have HP6 := hid hp6
       have HG6 := hid hg6
       have HT6 := hid (show w2.heap.size < W6.heap.size by have h1 := hg6.size; have h2 := HZ4.out; simp at h1; omega)
       clear hm6 hp6 hg6)
    | (at_builtin
       refine wpList_append_rows rfl (.tmp 50) (.tmp 52) 22 rfl w.heap.size 36 i0 _ 9 72 Try.underlying22 HI.out HZ0.out HZ1.out HZ2.out rfl (by decide) (.slice none 0 0) [] [[.int .i64 p0, .int .i64 p1, .int .i64 p2, .int .i64 p3, .int .i64 p4, .int .i64 p5, .int .i64 p6, .int .i64 p7, .int .i64 p8]] rfl (OwnR.nil _ _ _ _) (W4.heap.size + 1) 0 1 1 rfl rfl HRW.out (wide9 _ _ _ _ _ _ _ _ _) (by show 0 + 1 ≤ maxLen; unfold maxLen; omega) (by show (0 + 1) * 72 ≤ 140737488355328; omega) HS6.out ?_
       intro v7 W7 hown7 hg7 halt7
       obtain ⟨g7, cap7, rfl, hb7, hz7, hr7⟩ := own_one hown7
       have HM7 := hid (HM6.out.kept hg7 (by simp [Value.ownBlock]))
       have HP7 := hid (HP6.out.kept hg7 (by simp [Value.ownBlock]))
       have HR7 := hid hr7
       have HG7 := hid hg7
       have HE7 := hid (show g7 = W6.heap.size by rcases halt7 with h | h; (· simp [Value.ownBlock] at h); (· injection h))
       have HB7 := hid hb7
       have HZ7 := hid hz7
       clear hown7 hg7 halt7 hr7 hb7 hz7)
    | (refine wpList_entryStore rfl (.tmp 48) (.tmp 55) (.tmp 54) 129 rfl law39 Try.underlying129 rfl HM7.out (by unfold maxLen; omega) s rfl (.slice (some ⟨g7, 0, none⟩) 1 cap7) rfl (.agg #[.int .i64 0, .int .i64 0, .int .i64 0, .int .i64 0]) kl HKL.out HP7.out ?_
       intro W8 hm8 hg8
       have HM8 := hid hm8
       have HG8 := hid hg8
       clear hm8 hg8))
  rw [rounds_succ]
  have HLK := hid (law39.key HKL.out)
  go_wp2_with (refine wpList_rangeV rfl (.tmp 61) 129 rfl law39 Try.underlying129 rfl HM8.out ?_
               intro W9 cnt hr9 hg9 hs9
               have HR9 := hid hr9
               have HG9 := hid hg9
               have HS9 := hid hs9
               clear hr9 hg9 hs9)
  refine wp_loop_rounds 2 ?_
  rw [rounds_succ]
  go_wp2_with (refine wpList_nextV rfl (.tmp 62) rfl law39 rfl HR9.out (fun _ h => h) (fun hd => absurd (hd kl) (by rw [putG_same HLK.out]; simp)) ?_
               intro key vv kl2 W10 cnt2 hk2 hl2 hg2 hr10 hlt hgr10 hsz10 hen
               obtain ⟨e1, e2⟩ := only_key hg2
               subst e1 e2
               obtain rfl := law39.inj hk2 HKL.out
               have HR10 := hid hr10
               have HG10 := hid hgr10
               have HS10 := hid hsz10
               clear hr10 hgr10 hsz10 hk2 hl2 hg2 hlt)
  refine (sort1_point _ _ _ _).mono ?_
  rintro r W11 ⟨rfl, hb11⟩
  have hk11 : W11.heap[W10.heap.size]? = some (.cells #[.int .i64 0, .int .i64 0, .int .i64 0, .int .i64 0] 39) := heap_still hb11 (heap_alloc_at _ _ _ rfl)
  have k0 : W11.cell? ⟨W10.heap.size, 0, none⟩ = some (.int .i64 0) := (cell_row (j := 0) hk11).trans rfl
  have k1 : W11.cell? ⟨W10.heap.size, 1, none⟩ = some (.int .i64 0) := (cell_row (j := 1) hk11).trans rfl
  have k2 : W11.cell? ⟨W10.heap.size, 2, none⟩ = some (.int .i64 0) := (cell_row (j := 2) hk11).trans rfl
  have k3 : W11.cell? ⟨W10.heap.size, 3, none⟩ = some (.int .i64 0) := (cell_row (j := 3) hk11).trans rfl
  have HR11 := hid (HR10.out.grow (((Below.refl _ _).alloc (Nat.le_refl _) _).trans (hb11.mono (by simp))))
  have HZ11 := hid (show w.heap.size ≤ W11.heap.size by
    have h1 := hb11.size
    have h2 := HS10.out
    have h3 := HS9.out
    have h4 := HG8.out.size
    have h5 := HG7.out.size
    have h6 := HS6.out
    simp at h1
    omega)
  have HB11 := hid hb11
  clear hk11 hb11
  obtain ⟨i1, hi, hz0, hz1, hz2⟩ := info_parts info49
  have JI := hid hi
  have JZ0 := hid hz0
  have JZ1 := hid hz1
  have JZ2 := hid hz2
  clear hi hz0 hz1 hz2
  go_wp2_with (at_builtin
               refine wpList_append_rows rfl (.tmp 70) (.tmp 74) 24 rfl w.heap.size 49 i1 _ 5 56 Try.underlying24 JI.out JZ0.out JZ1.out JZ2.out rfl (by decide) (.slice none 0 0) [] [[.int .i64 0, .int .i64 0, .int .i64 0, .int .i64 0, .slice (some ⟨g7, 0, none⟩) 1 cap7]] rfl (OwnR.nil _ _ _ _) W11.heap.size 0 1 1 rfl rfl (RowsAt.one (heap_alloc_at _ _ _ rfl)) (wide5 _ _ _ _ _ _ _) (by show 0 + 1 ≤ maxLen; unfold maxLen; omega) (by show (0 + 1) * 56 ≤ 140737488355328; omega) (base_alloc HZ11.out _) ?_
               intro v12 W12 hown12 hg12 halt12
               obtain ⟨g12, cap12, rfl, hb12, hz12, hr12⟩ := own_one hown12
               have HR12 := hid ((HR11.out.grow ((Below.refl _ _).alloc (Nat.le_refl _) _)).kept hg12 (by simp [Value.ownBlock]) (by simp [Value.ownBlock]))
               have HO12 := hid hown12
               have HG12 := hid hg12
               have HRR12 := hid hr12
               have HBB12 := hid hb12
               have HZZ12 := hid hz12
               clear hown12 hg12 halt12 hr12 hb12 hz12)
  rw [rounds_succ]
  go_wp2_with (refine wpList_nextV rfl (.tmp 62) rfl law39 rfl HR12.out (fun kl h => (Bool.and_eq_true_iff.1 h).1) (fun _ => ?_) (fun key vv kl2 W10 cnt2 hk2 hl2 hg2 hr10 hlt hgr10 hsz10 hen => absurd hl2 (by
                 obtain ⟨e1, e2⟩ := only_key hg2
                 subst e1
                 rw [WideAt.sameKey_self HLK.out]
                 simp)))
  rw [rounds_succ]
  go_wp2_with fail
  refine (sort1_tile _ _ _ _).mono ?_
  rintro r W13 ⟨rfl, hb13⟩
  have hw2 : w.heap.size ≤ w2.heap.size := by omega
  have b6 : Below w.heap.size w W6 := ((HB4.out.alloc hzw _).alloc (base_alloc hzw _) _).grown HG6.out (base_alloc (base_alloc hzw _) _) (fun k hk => by injection hk with hk; omega)
  have b7 : Below w.heap.size w W7 := b6.grown HG7.out b6.size (fun k hk => by simp [Value.ownBlock] at hk)
  have z7 := b7.size
  have b8 : Below w.heap.size w W8 := b7.grown HG8.out z7 (fun k hk => by injection hk with hk; omega)
  have z8 := b8.size
  have b9 : Below w.heap.size w W9 := b8.grown HG9.out z8 (fun k hk => by cases hk)
  have b10 : Below w.heap.size w W10 := b9.grown HG10.out b9.size (fun k hk => by injection hk with hk; omega)
  have b11 : Below w.heap.size w W11 := (b10.alloc b10.size _).trans (HB11.out.mono (base_alloc b10.size _))
  have b12 : Below w.heap.size w W12 := (b11.alloc b11.size _).grown HG12.out (base_alloc b11.size _) (fun k hk => by simp [Value.ownBlock] at hk)
  have b13 : Below w.heap.size w W13 := b12.trans (hb13.mono b12.size)
  have e7 := HE7.out
  have t6 := HT6.out
  have l7 := HZ7.out
  have l8 := HG8.out.size
  have l9 := HG9.out.size
  have l10 := HG10.out.size
  have l11 := HB11.out.size
  have l12 := HG12.out.size
  simp at l11 l12
  have r8 := HR7.out.kept HG8.out (by intro h; injection h with h; omega) l7
  have r9 := r8.kept HG9.out (by simp) (by omega)
  have r10 := r9.kept HG10.out (by intro h; injection h with h; omega) (by omega)
  have r11 := r10.still (((Below.refl _ _).alloc (Nat.le_refl _) _).trans (HB11.out.mono (by simp))) (by omega)
  have r12 := (r11.still ((Below.refl _ _).alloc (Nat.le_refl _) _) (by omega)).kept HG12.out (by simp [Value.ownBlock]) (by simp; omega)
  have r13 := r12.still hb13 (by omega)
  have q13 := HRR12.out.still hb13 HZZ12.out
  rw [← HPR.out] at r13
  have RES := hid (show ∃ g cap g7 cap7, Ending.returned (.slice (some ⟨g12, 0, none⟩) 1 cap12) = .returned (.slice (some ⟨g, 0, none⟩) 1 cap) ∧ RowsAt W13 g 0 5 [[.int .i64 0, .int .i64 0, .int .i64 0, .int .i64 0, .slice (some ⟨g7, 0, none⟩) 1 cap7]] ∧ RowsAt W13 g7 0 9 [ptRow (F 0)] ∧ w.heap.size ≤ g ∧ w.heap.size ≤ g7 from ⟨g12, cap12, g7, cap7, rfl, q13, r13, HBB12.out, HB7.out⟩)
  have B13 := hid b13
  clear b6 b7 z7 b8 z8 b9 b10 b11 b12 b13 e7 t6 l7 l8 l9 l10 l11 l12 r8 r9 r10 r11 r12 r13 q13 hb13
  go_wp2_with fail
  go_ret
  refine ⟨?_, B13.out⟩
  obtain ⟨x1, x2, x3, x4, h1, h2⟩ := RES.out
  exact ⟨x1, x2, x3, x4, Eq.trans rfl h1, h2⟩
end Go.Proofs.Yteanlcefdoigcaa
namespace Go.Proofs.Yteanlcefdoigcaa
open Go.RowKit

def onePt : Nat → Nat → Int := fun _ j => if j = 0 then 5 else if j = 6 ∨ j = 7 then 1 else 0
theorem onePt_good : goodV onePt 1 = true := by decide
set_option maxRecDepth 100000 in
theorem layout_one (b off cc : Nat) (w : World) (hbw : b < w.heap.size) (hr : recs9 w b off 1 onePt) :
    Calls Try.prog 15 #[.slice (some ⟨b, off, none⟩) 1 cc, .int .i64 1] w fun r w' => (∃ g cap g7 cap7, r = .returned (.tuple #[.slice (some ⟨g, 0, none⟩) 1 cap, .int .i64 0]) ∧ RowsAt w' g 0 5 [[.int .i64 0, .int .i64 0, .int .i64 0, .int .i64 0, .slice (some ⟨g7, 0, none⟩) 1 cap7]] ∧ RowsAt w' g7 0 9 [ptRow (onePt 0)]) ∧ Below w.heap.size w w' := by
  have HC := hid hr
  clear hr
  go_enter Try.func15, Try.ntmps15
  go_wp2_with fail
  refine (good_any b off 1 cc onePt w (by omega) (by unfold maxLen; omega) hbw HC.out).mono ?_
  rintro r w1 ⟨rfl, hb1⟩
  rw [onePt_good]
  have HR1 := hid (HC.out.still hb1 hbw)
  have HB1 := hid hb1
  have hs1 := hb1.size
  clear hb1
  go_wp2_with fail
  refine (lay1_any b off cc onePt w1 (by omega) HR1.out (by decide) (by decide) (by decide)).mono ?_
  rintro r w2 ⟨⟨g, cap, g7, cap7, rfl, h5, h9, _, _⟩, hb2⟩
  have HB2 := hid (HB1.out.trans (hb2.mono hs1))
  have H5 := hid h5
  have H9 := hid h9
  clear hb2 h5 h9
  go_wp2_with fail
  go_ret2
  exact ⟨⟨g, cap, g7, cap7, rfl, H5.out, H9.out⟩, HB2.out⟩
set_option maxRecDepth 100000 in
theorem awake_any (w : World) : Calls Try.prog 14 #[] w fun r w' => r = .returned (.bool true) ∧ Below w.heap.size w w' := by
  go_enter Try.func14, Try.ntmps14
  go_wp2_with fail
  refine (layout_one _ _ _ _ (by simp) (fun i hi j hj => ?_)).mono ?_
  · obtain rfl : i = 0 := by omega
    rw [cell_row (heap_alloc_at _ _ _ rfl)]
    match j, hj with
    | 0, _ | 1, _ | 2, _ | 3, _ | 4, _ | 5, _ | 6, _ | 7, _ | 8, _ => rfl
  rintro r w1 ⟨⟨g, cap, g7, cap7, rfl, h5, h9⟩, hb1⟩
  have HB1 := hid (show Below w.heap.size w w1 from ((Below.refl _ _).alloc (Nat.le_refl _) _).trans (hb1.mono (by simp)))
  have t4 : w1.cell? ⟨g, 4, none⟩ = some (.slice (some ⟨g7, 0, none⟩) 1 cap7) := h5 0 _ rfl 4 (by omega)
  have p0 : w1.cell? ⟨g7, 0, none⟩ = some (.int .i64 5) := h9 0 _ rfl 0 (by omega)
  clear hb1 h5 h9
  go_wp2_with fail
  refine (xRank_any 0 _).mono ?_
  rintro r w2 ⟨rfl, rfl⟩
  have hrk : rankV 0 = 16294208416658607535 := by decide +kernel
  rw [hrk]
  go_wp2_with fail
  go_ret
  exact ⟨rfl, HB1.out⟩
end Go.Proofs.Yteanlcefdoigcaa
