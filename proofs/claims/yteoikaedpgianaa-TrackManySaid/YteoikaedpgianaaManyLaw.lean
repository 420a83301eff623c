/- TrackMany: more than 4096 valid fixes are refused by Clean and by Parts, and an invalid one among them is reported first. Every input, no condition. -/
import Derived.Test.YteoikaedpgianaaRefuse
import Derived.Test.YteoikaedpgianaaLimb
import Derived.Test.YteoikaedpgianaaFixR
import Derived.Test.YteoikaedpgianaaLawKit
namespace Go.Proofs.Yteoikaedpgianaa
open Go.ChangeShapes Go.WideShapes Go.ChangeAt Go.RowKit

/-- one fix's cells -/
def fixL (x y z e a b c d g : Int) (t : Int) : List Value := [.int .i64 t, .int .i64 x, .int .i64 y, .int .i64 z, .int .i64 e, .int .i64 a, .int .i64 b, .int .i64 c, .int .i64 d, .int .i64 g]
/-- the cells of the first k fixes -/
def manyL (x y z e a b c d g : Int) : Nat → List Value
  | 0 => []
  | k + 1 => manyL x y z e a b c d g k ++ fixL x y z e a b c d g k
def manyF (x y z e a b c d g : Int) (i j : Nat) : Int := [(i : Int), x, y, z, e, a, b, c, d, g].getD j 0
/-- the same, whose last fix is of a time below 0 -/
def manyG (bad : Bool) (x y z e a b c d g : Int) (i j : Nat) : Int := if bad = true ∧ i = 4096 ∧ j = 0 then -1 else manyF x y z e a b c d g i j
theorem manyL_len (x y z e a b c d g : Int) : ∀ k, (manyL x y z e a b c d g k).length = k * 10
  | 0 => rfl
  | k + 1 => by simp [manyL, manyL_len x y z e a b c d g k, fixL]; omega
theorem fixL_at (x y z e a b c d g : Int) (i : Nat) : ∀ j, j < 10 → (fixL x y z e a b c d g i)[j]? = some (.int .i64 (manyF x y z e a b c d g i j))
  | 0, _ => rfl
  | 1, _ => rfl
  | 2, _ => rfl
  | 3, _ => rfl
  | 4, _ => rfl
  | 5, _ => rfl
  | 6, _ => rfl
  | 7, _ => rfl
  | 8, _ => rfl
  | 9, _ => rfl
theorem manyL_at (x y z e a b c d g : Int) : ∀ k i j, i < k → j < 10 → (manyL x y z e a b c d g k)[i * 10 + j]? = some (.int .i64 (manyF x y z e a b c d g i j))
  | k + 1, i, j, hi, hj => by
    have hl := manyL_len x y z e a b c d g k
    unfold manyL
    by_cases h : i < k
    · rw [List.getElem?_append_left (by omega)]
      exact manyL_at x y z e a b c d g k i j h hj
    · obtain rfl : i = k := by omega
      rw [List.getElem?_append_right (by omega), hl, show i * 10 + j - i * 10 = j by omega]
      exact fixL_at x y z e a b c d g i j hj
theorem manyG_ok {x y z e a b c d g : Int} (h : fixB 0 x y z e a b c d g = true) {i : Nat} (hi : i ≤ 4096) : fixF (manyF x y z e a b c d g i) = true := by
  show fixB (i : Int) x y z e a b c d g = true
  unfold fixB at h ⊢
  simp only [Bool.and_eq_true] at h ⊢
  obtain ⟨⟨⟨⟨_, h2⟩, h3⟩, h4⟩, h5⟩ := h
  refine ⟨⟨⟨⟨?_, h2⟩, h3⟩, h4⟩, h5⟩
  simp [inB]; omega
theorem many_ref (bad : Bool) {x y z e a b c d g : Int} (h : fixB 0 x y z e a b c d g = true) : refV 10 1 0 0 4097 (manyG bad x y z e a b c d g) = if bad = true then 40 else 2 := by
  cases bad
  · rw [refV_many (by decide) (allN_iff.2 fun i hi => ?_) (by decide)]
    · rfl
    · have : manyG false x y z e a b c d g i = manyF x y z e a b c d g i := by funext j; simp [manyG]
      rw [this]
      exact manyG_ok h (by omega)
  · rw [refV_fix (k := 4096) (by decide) (by decide)]
    · rfl
    · show fixB (manyG true x y z e a b c d g 4096 0) _ _ _ _ _ _ _ _ _ = false
      have : manyG true x y z e a b c d g 4096 0 = -1 := by simp [manyG]
      rw [this]
      unfold fixB
      rw [show inB 0 1125899906842624 (-1) = false by decide]
      rfl
theorem info55 : (Try.prog.info? 55).map (fun i => (i.zero, i.size, i.bytes)) = some (some (.agg #[.int .i64 0, .int .i64 0, .int .i64 0, .int .i64 0, .int .i64 0, .int .i64 0, .int .i64 0, .int .i64 0, .int .i64 0, .int .i64 0]), 10, 80) := by kernel_rfl
theorem cells_at {w : World} {g : Nat} {C : Array Value} {t : TypeId} {fr : Nat × Nat} (h : w.heap[g]? = some (.cells C t fr)) (j : Nat) (u : Value) (hj : C[j]? = some u) : w.cell? ((⟨g, 0, none⟩ : Addr).add j) = some u := by
  have : w.cell? ⟨g, j, none⟩ = C[j]? := cell_row h
  have e : (⟨g, 0, none⟩ : Addr).add j = ⟨g, j, none⟩ := by
    simp only [Addr.add, Nat.zero_add]
    split
    · subst_vars; rfl
    · rfl
  rw [e, this, hj]
theorem own_recs {W : World} {B : Nat} {v : Value} {x y z e a b c d g : Int} {n : Nat} (hn : 0 < n) (h : W.ownsRow B 55 10 v n (manyL x y z e a b c d g n)) :
    ∃ blk cap cur, v = .slice (some ⟨blk, 0, none⟩) n cap ∧ B ≤ blk ∧ W.heap[blk]? = some (.cells cur 55) ∧ ∀ i j, i < n → j < 10 → cur[i * 10 + j]? = some (.int .i64 (manyF x y z e a b c d g i j)) := by
  rcases h.2 with ⟨_, h2⟩ | ⟨blk, cap, cur, h1, hB, h2, h3, _, h5, h6⟩
  · omega
  · refine ⟨blk, cap, cur, h1, hB, h2, fun i j hi hj => ?_⟩
    have hm := manyL_at x y z e a b c d g n i j hi hj
    rw [← h6, List.getElem?_take_of_lt (by omega), Array.getElem?_toList] at hm
    exact hm
theorem fixL_cells {w : World} {g0 : Nat} {x y z e a b c d g t : Int} (h : w.heap[g0]? = some (.cells #[.int .i64 t, .int .i64 x, .int .i64 y, .int .i64 z, .int .i64 e, .int .i64 a, .int .i64 b, .int .i64 c, .int .i64 d, .int .i64 g] 55)) (j : Nat) (u : Value) (hj : (fixL x y z e a b c d g t)[j]? = some u) :
    w.cell? ((⟨g0, 0, none⟩ : Addr).add j) = some u := cells_at h j u (by show (fixL x y z e a b c d g t).toArray[j]? = some u; rw [List.getElem?_toArray]; exact hj)
theorem fixL_one {x y z e a b c d g t : Int} (u : Value) (hu : u ∈ fixL x y z e a b c d g t) : u.oneCell' = true := by
  simp only [fixL, List.mem_cons, List.not_mem_nil, or_false] at hu
  rcases hu with rfl | rfl | rfl | rfl | rfl | rfl | rfl | rfl | rfl | rfl <;> rfl
set_option maxRecDepth 100000 in
set_option maxHeartbeats 1600000 in
theorem many_law (bad : Bool) (t x y z e a b c d g : Int) (w : World) :
    Calls Try.prog 18 #[.agg #[.int .i64 t, .int .i64 x, .int .i64 y, .int .i64 z, .int .i64 e, .int .i64 a, .int .i64 b, .int .i64 c, .int .i64 d, .int .i64 g], .bool bad] w fun r w' => r = .returned (.bool true) ∧ Below w.heap.size w w' := by
  have HBw := hid (Below.refl w.heap.size w)
  by_cases hf : fixB 0 x y z e a b c d g = true
  · have HF := hid hf
    have HREF := hid (many_ref bad hf)
    have hfix := rFix_any 0 x y z e a b c d g
    rw [hf] at hfix
    have HFX := hid hfix
    clear hf hfix
    obtain ⟨i0, hi, hz0, hz1, hz2⟩ := info_parts info55
    have HI := hid hi
    have HZ0 := hid hz0
    have HZ1 := hid hz1
    have HZ2 := hid hz2
    clear hi hz0 hz1 hz2
    go_enter Try.func18, Try.ntmps18
    go_wp2_with fail
    refine (HFX.out _).mono ?_
    rintro r w1 ⟨rfl, hb⟩
    have HBw1 := hid (show Below w.heap.size w w1 by have hB0 := HBw.out; refine Below.trans ?_ (hb.mono ?_); (focus ((repeat' (first | (with_reducible exact Below.refl _ _) | (with_reducible assumption) | (with_reducible refine Below.alloc ?_ ?_ _) | (with_reducible refine Below.drew ?_) | (with_reducible refine below_drewN ?_ _) | (with_reducible refine Below.setCell ?_ ?_ _) | (with_reducible refine below_setRow ?_ ?_ _) | go_size)); done)); (focus (first | (simp; done) | (simp; omega) | (have hB1 := hB0.size; simp; omega))))
    have hsw1 := hb.size
    (try simp at hsw1)
    have hzw1 : w.heap.size < w1.heap.size := by omega
    obtain ⟨hcw1, hfw1⟩ := bcell hb
    have hkw1 := hid (fun n x => @heap_still _ _ n x hb)
    clear hb
    have P1 := hid (hkw1.out _ _ (by repeat' (first | (refine heap_alloc_at _ _ _ ?_; (first | rfl | (simp; done) | (simp; omega))) | (refine heap_alloc_past _ _ _ _ ?_))) : w1.heap[w.heap.size]? = some (.cells #[.int .i64 0, .int .i64 x, .int .i64 y, .int .i64 z, .int .i64 e, .int .i64 a, .int .i64 b, .int .i64 c, .int .i64 d, .int .i64 g] 55))
    have hy1 : w.heap.size < w1.heap.size := by omega
    clear hcw1 hfw1
    go_wp2_with fail
    go_loopw [6, 7] (fun l i W => ∃ (k : Nat), k ≤ 4097 ∧ i = .int .i64 k ∧ W.ownsRow (w1.heap.size + 1) 55 10 l k (manyL x y z e a b c d g k) ∧ Below w.heap.size w W ∧ w1.heap.size + 1 ≤ W.heap.size ∧ W.heap[w.heap.size]? = some (.cells #[.int .i64 0, .int .i64 x, .int .i64 y, .int .i64 z, .int .i64 e, .int .i64 a, .int .i64 b, .int .i64 c, .int .i64 d, .int .i64 g] 55) ∧ W.heap[w1.heap.size]? = some (.cells #[.int .i64 10, .int .i64 1, .int .i64 0, .int .i64 0] 61)) (fun _ i _ => 4097 - (intOf i).toNat)
    case atStart => exact ⟨0, by omega, rfl, World.ownsRow_nil _ _ _ _, (by (have hB0 := HBw1.out); (repeat' (first | (with_reducible exact Below.refl _ _) | (with_reducible assumption) | (with_reducible refine Below.alloc ?_ ?_ _) | (with_reducible refine Below.drew ?_) | (with_reducible refine below_drewN ?_ _) | (with_reducible refine Below.setCell ?_ ?_ _) | (with_reducible refine below_setRow ?_ ?_ _) | go_size))), (by first | (simp; done) | (simp; omega)), heap_alloc_past _ _ _ _ P1.out, heap_alloc_at _ _ _ rfl⟩
    case round =>
      obtain ⟨k, hk, rfl, hrow, hB, hsz, hp, hm⟩ := hrel
      have HBwr := hid hB
      have HROW := hid hrow
      have HP := hid hp
      have HM := hid hm
      clear hrow hB hp hm
      by_cases hlt : k ≤ 4096
      · go_wp2_with (first | (refine wpList_load_at rfl 55 (.tmp 2) rfl rfl HP.out Try.underlying55 rfl size55 rfl ?_) | (refine wpList_store_new rfl 55 (.tmp 8) (.tmp 25) rfl rfl rfl rfl size55 rfl rfl rfl ?_) | (at_builtin; refine wpList_append_own _ rfl (.tmp 28) (.tmp 30) 106 rfl (w1.heap.size + 1) 55 i0 _ 10 80 Try.underlying106 HI.out HZ0.out HZ1.out HZ2.out rfl (by decide) _ k (manyL x y z e a b c d g k) rfl ((HROW.out.alloc _).alloc _) ⟨wr.heap.size + 1, 0, none⟩ 1 1 (fixL x y z e a b c d g k) rfl rfl (fixL_cells (heap_alloc_at _ _ _ (by simp))) (fun u hu => fixL_one u hu) (by unfold maxLen; omega) (by omega) (by simp; omega) ?_; intro v' w2 hown hgrow hnil))
        have HB2 := hid (show Below w.heap.size w w2 from Below.trans (by (have hB0 := HBwr.out); (repeat' (first | (with_reducible exact Below.refl _ _) | (with_reducible assumption) | (with_reducible refine Below.alloc ?_ ?_ _) | (with_reducible refine Below.drew ?_) | (with_reducible refine below_drewN ?_ _) | (with_reducible refine Below.setCell ?_ ?_ _) | (with_reducible refine below_setRow ?_ ?_ _) | go_size))) ((Below.refl (w1.heap.size + 1) _).grown hgrow (by simp; omega) (fun g hg => (HROW.out.lt g hg).1) |>.mono (by omega)))
        have hpast : ∀ n o, n < w1.heap.size + 1 → wr.heap[n]? = some o → w2.heap[n]? = some o := fun n o hn ho => (hgrow.block n (by simp; omega) (fun he => absurd ((HROW.out.lt n he.symm).1) (by omega))).trans (heap_alloc_past _ _ _ _ (heap_alloc_past _ _ _ _ ho))
        have hs2 : w1.heap.size + 1 ≤ w2.heap.size := Nat.le_trans (by simp; omega) hgrow.size
        go_roundw
        case rel => exact ⟨k + 1, by omega, by go_num, hown, HB2.out, hs2, hpast _ _ (by omega) HP.out, hpast _ _ (by omega) HM.out⟩
        case measure => simp [intOf]; omega
      · obtain rfl : k = 4097 := by omega
        obtain ⟨blk, cap, cur, rfl, hblk, hcur, hcells⟩ := own_recs (by decide) HROW.out
        have hbs := (Array.getElem?_eq_some_iff.1 hcur).1
        have HCUR := hid hcur
        have HC := hid hcells
        clear hcur hcells HROW hlt
        cases bad
        · have HRC := hid (show recs10 wr blk 0 4097 (manyG false x y z e a b c d g) from fun i hi j hj => by
            rw [Nat.zero_add]; exact (cell_row HCUR.out).trans (by rw [HC.out i j hi hj]; simp [manyG]))
          have HB5 := hid HBwr.out
          have HFR := hid (show fixRow wr (some ⟨blk, 0, none⟩) 4097 (manyG false x y z e a b c d g) from fun _ => ⟨blk, 0, rfl, hbs, HRC.out⟩)
          go_wp2_with (first | (refine wpList_load_at rfl 61 (.tmp 5) rfl rfl HM.out Try.underlying61 rfl size61 rfl ?_))
          have HNE := hid (show refV 10 1 0 0 4097 (manyG false x y z e a b c d g) ≠ 0 by rw [HREF.out]; decide)
          refine (xClean_err _ _ _ _ _ _ _ _ _ (by decide) HFR.out HNE.out).mono ?_
          rintro r w2 ⟨rfl, hb⟩
          have HBw2 := hid (show Below w.heap.size w w2 by have hB0 := HBwr.out; refine Below.trans ?_ (hb.mono ?_); (focus ((repeat' (first | (with_reducible exact Below.refl _ _) | (with_reducible assumption) | (with_reducible refine Below.alloc ?_ ?_ _) | (with_reducible refine Below.drew ?_) | (with_reducible refine below_drewN ?_ _) | (with_reducible refine Below.setCell ?_ ?_ _) | (with_reducible refine below_setRow ?_ ?_ _) | go_size)); done)); (focus (first | (simp; done) | (simp; omega) | (have hB1 := hB0.size; simp; omega))))
          have hsw2 := hb.size
          (try simp at hsw2)
          have hzw2 : w.heap.size < w2.heap.size := by omega
          have hkw2 := hid (fun n x => @heap_still _ _ n x hb)
          have hbw2 := hid hb
          clear hb
          rw [HREF.out]
          have M2 := hid (hkw2.out _ _ HM.out)
          have HFR2 := hid (HFR.out.still hbw2.out)
          go_wp2_with (first | (refine wpList_load_at rfl 61 (.tmp 5) rfl rfl M2.out Try.underlying61 rfl size61 rfl ?_))
          refine (xParts_err _ _ _ _ _ _ _ _ _ (by decide) HFR2.out HNE.out).mono ?_
          rintro r w3 ⟨rfl, hb⟩
          have HBw3 := hid (show Below w.heap.size w w3 by have hB0 := HBw2.out; refine Below.trans ?_ (hb.mono ?_); (focus ((repeat' (first | (with_reducible exact Below.refl _ _) | (with_reducible assumption) | (with_reducible refine Below.alloc ?_ ?_ _) | (with_reducible refine Below.drew ?_) | (with_reducible refine below_drewN ?_ _) | (with_reducible refine Below.setCell ?_ ?_ _) | (with_reducible refine below_setRow ?_ ?_ _) | go_size)); done)); (focus (first | (simp; done) | (simp; omega) | (have hB1 := hB0.size; simp; omega))))
          have hsw3 := hb.size
          (try simp at hsw3)
          have hzw3 : w.heap.size < w3.heap.size := by omega
          obtain ⟨hcw3, hfw3⟩ := bcell hb
          have hkw3 := hid (fun n x => @heap_still _ _ n x hb)
          clear hb
          rw [HREF.out]
          go_wp2_with (first | (refine wpList_store_new rfl 64 (.tmp 13) (.tmp 47) rfl rfl rfl rfl size64 rfl rfl rfl ?_))
          refine (awake_any _).mono ?_
          rintro r w4 ⟨rfl, hb⟩
          have HBw4 := hid (show Below w.heap.size w w4 by have hB0 := HBw3.out; refine Below.trans ?_ (hb.mono ?_); (focus ((repeat' (first | (with_reducible exact Below.refl _ _) | (with_reducible assumption) | (with_reducible refine Below.alloc ?_ ?_ _) | (with_reducible refine Below.drew ?_) | (with_reducible refine below_drewN ?_ _) | (with_reducible refine Below.setCell ?_ ?_ _) | (with_reducible refine below_setRow ?_ ?_ _) | go_size)); done)); (focus (first | (simp; done) | (simp; omega) | (have hB1 := hB0.size; simp; omega))))
          have hsw4 := hb.size
          (try simp at hsw4)
          have hzw4 : w.heap.size < w4.heap.size := by omega
          obtain ⟨hcw4, hfw4⟩ := bcell hb
          have hkw4 := hid (fun n x => @heap_still _ _ n x hb)
          clear hb
          go_wp2_with fail
          go_ret
          exact ⟨rfl, HBw4.out⟩
        · have c0 : wr.cell? ⟨blk, 40960, none⟩ = some (.int .i64 4096) := (cell_row HCUR.out).trans (HC.out 4096 0 (by decide) (by decide))
          have hf0 : wr.frozen? ⟨blk, 40960, none⟩ = false := by have hh := HCUR.out; simp [World.frozen?, hh]
          have hne : w1.heap.size ≠ blk := by omega
          have HM9 := hid (heap_set_other (j := 40960) HM.out hne (.int .i64 (-1)))
          have H9 := hid (heap_setCell (j := 40960) HCUR.out (.int .i64 (-1)))
          have HRC := hid (show recs10 (wr.setCell ⟨blk, 40960, none⟩ (.int .i64 (-1))) blk 0 4097 (manyG true x y z e a b c d g) from fun i hi j hj => by
            rw [Nat.zero_add]
            refine (cell_row H9.out).trans ?_
            have hcc := HC.out i j hi hj
            rw [Array.getElem?_setIfInBounds]
            by_cases h0 : i = 4096 ∧ j = 0
            · obtain ⟨rfl, rfl⟩ := h0
              rw [if_pos rfl, if_pos (Array.getElem?_eq_some_iff.1 hcc).1]
              rfl
            · rw [if_neg (by omega), hcc]
              unfold manyG
              rw [if_neg (fun h => h0 h.2)])
          have HB5 := hid (show Below w.heap.size w (wr.setCell ⟨blk, 40960, none⟩ (.int .i64 (-1))) by (have hB0 := HBwr.out); (repeat' (first | (with_reducible exact Below.refl _ _) | (with_reducible assumption) | (with_reducible refine Below.alloc ?_ ?_ _) | (with_reducible refine Below.drew ?_) | (with_reducible refine below_drewN ?_ _) | (with_reducible refine Below.setCell ?_ ?_ _) | (with_reducible refine below_setRow ?_ ?_ _) | go_size)))
          go_wp2_with (first | (refine wpList_load_at rfl 61 (.tmp 5) rfl rfl HM9.out Try.underlying61 rfl size61 rfl ?_))
          have HFR := hid (show fixRow (wr.setCell ⟨blk, 40960, none⟩ (.int .i64 (-1))) (some ⟨blk, 0, none⟩) 4097 (manyG true x y z e a b c d g) from fun _ => ⟨blk, 0, rfl, by simp; omega, HRC.out⟩)
          clear HM HBwr HCUR
          have HM := hid HM9.out
          have HBwb := hid HB5.out
          clear HM9 HB5 H9
          have hs9 : w.heap.size < (wr.setCell ⟨blk, 40960, none⟩ (.int .i64 (-1))).heap.size := by simp; omega
          generalize wr.setCell ⟨blk, 40960, none⟩ (.int .i64 (-1)) = wb at *
          have HNE := hid (show refV 10 1 0 0 4097 (manyG true x y z e a b c d g) ≠ 0 by rw [HREF.out]; decide)
          refine (xClean_err _ _ _ _ _ _ _ _ _ (by decide) HFR.out HNE.out).mono ?_
          rintro r w2 ⟨rfl, hb⟩
          have HBw2 := hid (show Below w.heap.size w w2 by have hB0 := HBwb.out; refine Below.trans ?_ (hb.mono ?_); (focus ((repeat' (first | (with_reducible exact Below.refl _ _) | (with_reducible assumption) | (with_reducible refine Below.alloc ?_ ?_ _) | (with_reducible refine Below.drew ?_) | (with_reducible refine below_drewN ?_ _) | (with_reducible refine Below.setCell ?_ ?_ _) | (with_reducible refine below_setRow ?_ ?_ _) | go_size)); done)); (focus (first | (simp; done) | (simp; omega) | (have hB1 := hB0.size; simp; omega))))
          have hsw2 := hb.size
          (try simp at hsw2)
          have hzw2 : w.heap.size < w2.heap.size := by omega
          have hkw2 := hid (fun n x => @heap_still _ _ n x hb)
          have hbw2 := hid hb
          clear hb
          rw [HREF.out]
          have M2 := hid (hkw2.out _ _ HM.out)
          have HFR2 := hid (HFR.out.still hbw2.out)
          go_wp2_with (first | (refine wpList_load_at rfl 61 (.tmp 5) rfl rfl M2.out Try.underlying61 rfl size61 rfl ?_))
          refine (xParts_err _ _ _ _ _ _ _ _ _ (by decide) HFR2.out HNE.out).mono ?_
          rintro r w3 ⟨rfl, hb⟩
          have HBw3 := hid (show Below w.heap.size w w3 by have hB0 := HBw2.out; refine Below.trans ?_ (hb.mono ?_); (focus ((repeat' (first | (with_reducible exact Below.refl _ _) | (with_reducible assumption) | (with_reducible refine Below.alloc ?_ ?_ _) | (with_reducible refine Below.drew ?_) | (with_reducible refine below_drewN ?_ _) | (with_reducible refine Below.setCell ?_ ?_ _) | (with_reducible refine below_setRow ?_ ?_ _) | go_size)); done)); (focus (first | (simp; done) | (simp; omega) | (have hB1 := hB0.size; simp; omega))))
          have hsw3 := hb.size
          (try simp at hsw3)
          have hzw3 : w.heap.size < w3.heap.size := by omega
          obtain ⟨hcw3, hfw3⟩ := bcell hb
          have hkw3 := hid (fun n x => @heap_still _ _ n x hb)
          clear hb
          rw [HREF.out]
          go_wp2_with (first | (refine wpList_store_new rfl 64 (.tmp 13) (.tmp 47) rfl rfl rfl rfl size64 rfl rfl rfl ?_))
          refine (awake_any _).mono ?_
          rintro r w4 ⟨rfl, hb⟩
          have HBw4 := hid (show Below w.heap.size w w4 by have hB0 := HBw3.out; refine Below.trans ?_ (hb.mono ?_); (focus ((repeat' (first | (with_reducible exact Below.refl _ _) | (with_reducible assumption) | (with_reducible refine Below.alloc ?_ ?_ _) | (with_reducible refine Below.drew ?_) | (with_reducible refine below_drewN ?_ _) | (with_reducible refine Below.setCell ?_ ?_ _) | (with_reducible refine below_setRow ?_ ?_ _) | go_size)); done)); (focus (first | (simp; done) | (simp; omega) | (have hB1 := hB0.size; simp; omega))))
          have hsw4 := hb.size
          (try simp at hsw4)
          have hzw4 : w.heap.size < w4.heap.size := by omega
          obtain ⟨hcw4, hfw4⟩ := bcell hb
          have hkw4 := hid (fun n x => @heap_still _ _ n x hb)
          clear hb
          go_wp2_with fail
          go_ret
          exact ⟨rfl, HBw4.out⟩
  · have HF := hid (Bool.eq_false_iff.2 hf)
    have hfix := rFix_any 0 x y z e a b c d g
    rw [HF.out] at hfix
    have HFX := hid hfix
    clear hf hfix
    go_enter Try.func18, Try.ntmps18
    go_wp2_with fail
    refine (HFX.out _).mono ?_
    rintro r w1 ⟨rfl, hb⟩
    have HBw1 := hid (show Below w.heap.size w w1 by have hB0 := HBw.out; refine Below.trans ?_ (hb.mono ?_); (focus ((repeat' (first | (with_reducible exact Below.refl _ _) | (with_reducible assumption) | (with_reducible refine Below.alloc ?_ ?_ _) | (with_reducible refine Below.drew ?_) | (with_reducible refine below_drewN ?_ _) | (with_reducible refine Below.setCell ?_ ?_ _) | (with_reducible refine below_setRow ?_ ?_ _) | go_size)); done)); (focus (first | (simp; done) | (simp; omega) | (have hB1 := hB0.size; simp; omega))))
    have hsw1 := hb.size
    (try simp at hsw1)
    have hzw1 : w.heap.size < w1.heap.size := by omega
    obtain ⟨hcw1, hfw1⟩ := bcell hb
    have hkw1 := hid (fun n x => @heap_still _ _ n x hb)
    clear hb
    go_wp2_with fail
    refine (awake_any _).mono ?_
    rintro r w2 ⟨rfl, hb⟩
    have HBw2 := hid (show Below w.heap.size w w2 by have hB0 := HBw1.out; refine Below.trans ?_ (hb.mono ?_); (focus ((repeat' (first | (with_reducible exact Below.refl _ _) | (with_reducible assumption) | (with_reducible refine Below.alloc ?_ ?_ _) | (with_reducible refine Below.drew ?_) | (with_reducible refine below_drewN ?_ _) | (with_reducible refine Below.setCell ?_ ?_ _) | (with_reducible refine below_setRow ?_ ?_ _) | go_size)); done)); (focus (first | (simp; done) | (simp; omega) | (have hB1 := hB0.size; simp; omega))))
    have hsw2 := hb.size
    (try simp at hsw2)
    have hzw2 : w.heap.size < w2.heap.size := by omega
    obtain ⟨hcw2, hfw2⟩ := bcell hb
    have hkw2 := hid (fun n x => @heap_still _ _ n x hb)
    clear hb
    go_wp2_with fail
    go_ret
    exact ⟨rfl, HBw2.out⟩
theorem many_args (W : World) (xs : List Int) (bad : Bool) (hx : xs.length = 10) :
    Calls Try.prog 18 #[.agg (xs.map (Value.int .i64)).toArray, .bool bad] W fun r w' => r = .returned (.bool true) ∧ Below W.heap.size W w' := by
  match xs, hx with
  | [t, x, y, z, e, a, b, c, d, g], _ => exact many_law bad t x y z e a b c d g W
set_option maxRecDepth 100000 in
theorem trackMany_lifted (os : Os) (started : os.Started) (H : Type) (enc : TypeId × Value → H) :
    ReturnsInHanded {} Try.checked os 18 .any (Rows.trackManySpec.pre6 enc Try.prog Try.f18 Rows.trackManyRow.domain false) (Rows.trackManySpec.post enc Try.prog Try.f18 false true false false) := by
  refine law_lifted (C := Try.checked) (tb := 4) lawOwn started (by kernel_rfl) Try.func18 rfl ?_ (show Try.f18.resultTypes = #[4] by kernel_rfl) Try.underlying4 lawLaid ?_
    (ChangeSpec.witness6 (enc := enc) (C := Try.checked) false ⟨#[], #[.agg #[.int .i64 0, .int .i64 0, .int .i64 0, .int .i64 0, .int .i64 0, .int .i64 0, .int .i64 0, .int .i64 0, .int .i64 0, .int .i64 0], .bool false], []⟩ 8 (by kernel_rfl) (by kernel_rfl) (by kernel_rfl) (by kernel_rfl)) ?_
  · intro ds hds
    match ds, hds with
    | [d1, d2], _ => exact ⟨rfl, rfl, rfl⟩
  · rw [Try.params18]
    intro t ht
    simp at ht
    rcases ht with rfl | rfl
    all_goals exact ⟨by kernel_rfl, of_decide_eq_true (by kernel_rfl)⟩
  · intro W base args ds p hval hA hlt _
    change DataW.TrodAll enc Try.prog W 0 (fun _ => true) true Try.f18.params.toList args.toList ds p at hA
    change ∀ (j : Nat) t v, Try.f18.params[j]? = some t → args[j]? = some v → Value.okWide Try.prog W .any base t v at hval
    rw [Try.params18] at hA hval
    obtain ⟨v0, vs0, d0, ds0, p0, q0, hargs, rfl, rfl, h0, r0⟩ := trodAll_cons hA
    obtain ⟨v1, vs1, d1, ds1, p1, q1, rfl, rfl, rfl, h1, r1⟩ := trodAll_cons r0
    obtain ⟨rfl, rfl, rfl⟩ := trodAll_nil r1
    obtain rfl : args = #[v0, v1] := by cases args; simp_all
    obtain ⟨c0, e0, f0⟩ := open_flat lawFlat55 lawSize55 (by kernel_rfl) (hval 0 55 v0 rfl rfl) h0
    obtain ⟨b, rfl, _⟩ := open_bool Try.underlying4 (hval 1 4 v1 rfl rfl) h1
    obtain ⟨xs, hx, rfl⟩ := lawCells f0
    subst e0
    exact many_args W xs b hx

/-- TrackMany, whatever the input. -/
theorem trackMany_holds : Rows.TrackManySaid :=
  OpenClaim.holds_of_wide 18 Try.f18 rfl rfl rfl rfl rfl rfl rfl ⟨rfl, rfl, rfl, rfl, rfl⟩ rfl rfl rfl rfl rfl (by kernel_rfl) Try.func18 (by kernel_rfl)
    (of_decide_eq_true (by kernel_rfl)) (by unfold Func.isWrapper; rw [if_neg (of_decide_eq_false (by kernel_rfl))]; exact ⟨rfl, rfl⟩)
    (fun os started H enc _ => trackMany_lifted os started H enc)
#print axioms trackMany_holds
end Go.Proofs.Yteoikaedpgianaa
