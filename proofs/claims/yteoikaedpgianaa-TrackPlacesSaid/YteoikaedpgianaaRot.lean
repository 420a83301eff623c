/- The rotation of a vector by a quaternion, in the statement TrackBeams. -/
import Derived.Test.YteoikaedpgianaaPart
import Derived.Test.YteoikaedpgianaaBeam
import Derived.Deep.Light
namespace Go.Proofs.Yteoikaedpgianaa
open Go.RowKit Limb

theorem size133 : (Try.prog.info? 133).map (·.size) = some 9 := by kernel_rfl
theorem size37 : (Try.prog.info? 37).map (·.size) = some 9 := by kernel_rfl
/-- the matrix of a rotation -/
def rotM (a b c d : Int) : List Int := [a*a + b*b - c*c - d*d, 2 * (b*c - a*d), 2 * (b*d + a*c), 2 * (b*c + a*d), a*a - b*b + c*c - d*d, 2 * (c*d - a*b), 2 * (b*d - a*c), 2 * (c*d + a*b), a*a - b*b - c*c + d*d]
/-- a partial sum of a row times a vector -/
def rotS (M v : List Int) (i : Nat) : Nat → Int
  | 0 => 0
  | k + 1 => rotS M v i k + M.getD (i * 3 + k) 0 * v.getD k 0
def rotK : Nat → Nat
  | 0 => 4
  | 1 => 33
  | 2 => 133
  | _ => 533
theorem rotM_bd {a b c d : Int} (h1 : -(1000 * 1000) ≤ a * a ∧ a * a ≤ 1000 * 1000) (h2 : -(1000 * 1000) ≤ b * b ∧ b * b ≤ 1000 * 1000) (h3 : -(1000 * 1000) ≤ c * c ∧ c * c ≤ 1000 * 1000) (h4 : -(1000 * 1000) ≤ d * d ∧ d * d ≤ 1000 * 1000)
    (h5 : -(1000 * 1000) ≤ b * c ∧ b * c ≤ 1000 * 1000) (h6 : -(1000 * 1000) ≤ a * d ∧ a * d ≤ 1000 * 1000) (h7 : -(1000 * 1000) ≤ b * d ∧ b * d ≤ 1000 * 1000) (h8 : -(1000 * 1000) ≤ a * c ∧ a * c ≤ 1000 * 1000) (h9 : -(1000 * 1000) ≤ c * d ∧ c * d ≤ 1000 * 1000) (h10 : -(1000 * 1000) ≤ a * b ∧ a * b ≤ 1000 * 1000) :
    ∀ j, j < 9 → -4000000 ≤ (rotM a b c d).getD j 0 ∧ (rotM a b c d).getD j 0 ≤ 4000000 := by
  intro j hj
  unfold rotM
  match j, hj with
  | 0, _ | 1, _ | 2, _ | 3, _ | 4, _ | 5, _ | 6, _ | 7, _ | 8, _ => simp only [List.getD_cons_zero, List.getD_cons_succ]; omega
def zero37 : Array Value := #[.bool false, .slice none 0 0, .slice none 0 0, .bool false, .slice none 0 0, .slice none 0 0, .bool false, .slice none 0 0, .slice none 0 0]
/-- the world behind m rounds of the rotation -/
def RotSt (M v : List Int) (g : Nat) (W wr : World) (m : Nat) : Prop :=
  ∃ C, wr.heap[g]? = some (.cells C 37) ∧ C.size = 9 ∧ (∀ j, j < m → QCells C (j * 3) wr ((rotS M v j 3 : Int) : Rat) 533) ∧ Below g W wr
theorem QCells.row37 {C old cs : Array Value} {o k g : Nat} {fr : Nat × Nat} {W : World} {q : Rat} (h : QCells C o W q k) (hg : W.heap[g]? = some (.cells old 37 fr)) : QCells C o (W.setRow g cs) q k := by
  obtain ⟨s, a, p, c, b, r, d, h1, h2, h3, h4⟩ := h
  exact ⟨s, a, p, c, b, r, d, h1, h2, h3, h4.row hg (by decide)⟩
/-- the world within a round of the rotation -/
def RotIn (M v : List Int) (g : Nat) (W wr : World) (m k : Nat) : Prop :=
  ∃ C, wr.heap[g]? = some (.cells C 37) ∧ C.size = 9 ∧ (∀ j, j < m → QCells C (j * 3) wr ((rotS M v j 3 : Int) : Rat) 533) ∧ QCells C (m * 3) wr ((rotS M v m k : Int) : Rat) (rotK k) ∧ Below g W wr
theorem rot_cell {l : List Int} {j : Nat} (h : j < l.length) : ((l.map (Value.int .i64)).toArray)[j]? = some (.int .i64 (l.getD j 0)) := by
  rw [List.getElem?_toArray, List.getElem?_map, List.getElem?_eq_getElem h, List.getD_eq_getElem?_getD, List.getElem?_eq_getElem h]
  rfl
theorem rotK_next {k : Nat} (h : k < 3) : ∃ K, rotK k ≤ K ∧ 8 ≤ K ∧ 4 * K + 1 = rotK (k + 1) ∧ K ≤ 5000 := by
  match k, h with
  | 0, _ => exact ⟨8, by decide, by decide, by decide, by decide⟩
  | 1, _ => exact ⟨33, by decide, by decide, by decide, by decide⟩
  | 2, _ => exact ⟨133, by decide, by decide, by decide, by decide⟩
set_option maxRecDepth 100000 in
set_option maxHeartbeats 3200000 in
theorem rot_any (a b c d v0 v1 v2 : Int) (w : World) (hp : ok4 1000 a b c d = true) (hv0 : -4000000 ≤ v0 ∧ v0 ≤ 4000000) (hv1 : -4000000 ≤ v1 ∧ v1 ≤ 4000000) (hv2 : -4000000 ≤ v2 ∧ v2 ≤ 4000000) :
    Calls Try.prog 26 #[.agg #[.int .i64 a, .int .i64 b, .int .i64 c, .int .i64 d], .agg #[.int .i64 v0, .int .i64 v1, .int .i64 v2]] w
      fun r w' => (∃ C, r = .returned (.agg C) ∧ C.size = 9 ∧ C.toList.all (·.oneCell') = true ∧ ∀ i, i < 3 → QCells C (i * 3) w' ((rotS (rotM a b c d) [v0, v1, v2] i 3 : Int) : Rat) 533) ∧ Below w.heap.size w w' := by
  obtain ⟨ha, hb, hc, hd⟩ := ok4_iff.1 hp
  have h1 := Quat.mul_bd ha ha
  have h2 := Quat.mul_bd hb hb
  have h3 := Quat.mul_bd hc hc
  have h4 := Quat.mul_bd hd hd
  have h5 := Quat.mul_bd hb hc
  have h6 := Quat.mul_bd ha hd
  have h7 := Quat.mul_bd hb hd
  have h8 := Quat.mul_bd ha hc
  have h9 := Quat.mul_bd hc hd
  have h10 := Quat.mul_bd ha hb
  have HV := hid (show ∀ i, i < 3 → -4000000 ≤ [v0, v1, v2].getD i 0 ∧ [v0, v1, v2].getD i 0 ≤ 4000000 from fun i hi => match i, hi with | 0, _ => hv0 | 1, _ => hv1 | 2, _ => hv2)
  clear hp hv0 hv1 hv2
  go_enter Try.func26, Try.ntmps26
  go_wp2_with (refine wpList_store_new rfl 133 (.tmp 5) (.tmp 153) rfl rfl rfl ?_ size133 rfl rfl rfl ?_; (focus (simp; done)))
  refine gen_world (fun W hW => ?_)
  have f2 := hid (show W.heap[w.heap.size]? = some (.cells #[.int .i64 a, .int .i64 b, .int .i64 c, .int .i64 d] 22) from by rw [hW]; exact (by repeat' (first | (refine heap_alloc_at _ _ _ ?_; (first | rfl | (simp; done) | (simp; omega))) | (refine heap_alloc_past _ _ _ _ ?_))))
  have f3 := hid (show W.heap[w.heap.size + 1]? = some (.cells #[.int .i64 v0, .int .i64 v1, .int .i64 v2] 26) from by rw [hW]; exact (by repeat' (first | (refine heap_alloc_at _ _ _ ?_; (first | rfl | (simp; done) | (simp; omega))) | (refine heap_alloc_past _ _ _ _ ?_))))
  have f4 := hid (show W.heap[w.heap.size + 1 + 1]? = some (.cells zero37 37) from by rw [hW]; exact (by repeat' (first | (refine heap_alloc_at _ _ _ ?_; (first | rfl | (simp; done) | (simp; omega))) | (refine heap_alloc_past _ _ _ _ ?_))))
  have f5 := hid (show W.heap[w.heap.size + 1 + 1 + 1]? = some (.cells ((rotM a b c d).map (Value.int .i64)).toArray 133) from by rw [hW]; exact (by repeat' (first | (refine heap_alloc_at _ _ _ ?_; (first | rfl | (simp; done) | (simp; omega))) | (refine heap_alloc_past _ _ _ _ ?_))))
  have f6 := hid (show W.heap[w.heap.size + 1 + 1 + 1 + 1]? = some (.cells zero37 37) from by rw [hW]; exact (by repeat' (first | (refine heap_alloc_at _ _ _ ?_; (first | rfl | (simp; done) | (simp; omega))) | (refine heap_alloc_past _ _ _ _ ?_))))
  have hb0 := hid (show Below w.heap.size w W by rw [hW]; (repeat' (first | (with_reducible exact Below.refl _ _) | (with_reducible assumption) | (with_reducible refine Below.alloc ?_ ?_ _) | (with_reducible refine Below.drew ?_) | (with_reducible refine below_drewN ?_ _) | (with_reducible refine Below.setCell ?_ ?_ _) | (with_reducible refine below_setRow ?_ ?_ _) | go_size)))
  have hsW0 : W.heap.size = w.heap.size + 5 := by rw [hW]; simp
  clear hW
  have HM := hid (rotM_bd h1 h2 h3 h4 h5 h6 h7 h8 h9 h10)
  clear h1 h2 h3 h4 h5 h6 h7 h8 h9 h10
  have HWH := hid (fun z (hz : -4000000 ≤ z ∧ z ≤ 4000000) W' => whole_any z W' (by omega))
  go_loopw [154] (fun i wr => ∃ m : Nat, m ≤ 3 ∧ i = .int .i64 m ∧ RotSt (rotM a b c d) [v0, v1, v2] (w.heap.size + 1 + 1 + 1 + 1) W wr m) (fun i _ => 3 - (intOf i).toNat)
  case atStart => exact ⟨0, by omega, rfl, zero37, f6.out, rfl, fun j hj => absurd hj (Nat.not_lt_zero _), Below.refl _ _⟩
  case round =>
    obtain ⟨m, hm, rfl, hst⟩ := hrel
    have HS := hid hst
    clear hst
    by_cases hlt : m < 3
    · obtain ⟨wo, rfl⟩ : ∃ wo : World, wo = wr := ⟨_, rfl⟩
      go_wp2_with fail
      refine (HWH.out 0 (by omega) _).mono ?_
      rintro r w1 ⟨⟨v, rfl, hv⟩, hb1⟩
      obtain ⟨cs, rfl, hcs, hco⟩ := hv.cells
      have HV0 := hid hv
      obtain ⟨C, hC, hC9, hR, hBw⟩ := HS.out
      have FC := hid (heap_still hb1 hC)
      have hsz1 := hb1.size
      have hszo := hBw.size
      have HR1 := hid (fun j hj => (hR j hj).grow hb1)
      have HB1 := hid (hBw.trans (hb1.mono (by omega)))
      clear hC hR hBw hb1 hv
      go_wp2_with (refine pt_store rfl 35 (.tmp 159) (.tmp 158) rfl _ _ _ rfl rfl FC.out size35 hcs (by omega) hco ?_)
      refine gen_world (fun w2 hW2 => ?_)
      have HI0 := hid (show RotIn (rotM a b c d) [v0, v1, v2] (w.heap.size + 1 + 1 + 1 + 1) W w2 m 0 by
        rw [hW2]
        exact ⟨_, setRow_heap _ _ _ _ _ _ FC.out, by rw [ptL_size]; exact hC9, fun j hj => (HR1.out j hj).other FC.out (by decide) hcs (by omega), QCells.put HV0.out FC.out (by decide) (by omega), below_setRow HB1.out (Nat.le_refl _) _⟩)
      clear hW2 hC9
      go_loopw [160] (fun i wr => ∃ k : Nat, k ≤ 3 ∧ i = .int .i64 k ∧ RotIn (rotM a b c d) [v0, v1, v2] (w.heap.size + 1 + 1 + 1 + 1) W wr m k) (fun i _ => 3 - (intOf i).toNat)
      case atStart => exact ⟨0, by omega, rfl, HI0.out⟩
      case round =>
        clear HI0
        obtain ⟨k, hk, rfl, hst⟩ := hrel
        have HI := hid hst
        clear hst
        by_cases hlt2 : k < 3
        · obtain ⟨C2, hC2, hC9, hR2, hQ2, hB2⟩ := HI.out
          have hszw := hB2.size
          obtain ⟨sq, aq, pq, cq, bq, rq, dq, q0, q1, q2, hq⟩ := hQ2
          have HQ0 := hid q0
          have HQ1 := hid q1
          have HQ2 := hid q2
          have HQQ := hid hq
          have FC2 := hid hC2
          have HR2 := hid hR2
          have HB2 := hid hB2
          have HBW := hid (hb0.out.trans (hB2.mono (by omega)))
          have F3 := hid (heap_below hB2 (by omega) f3.out)
          have F5 := hid (heap_below hB2 (by omega) f5.out)
          have hx := HM.out (m * 3 + k) (by omega)
          have hy := HV.out k hlt2
          have HX := hid (show (((rotM a b c d).map (Value.int .i64)).toArray)[m * 3 + k]? = some (.int .i64 ((rotM a b c d).getD (m * 3 + k) 0)) from rot_cell (by show _ < 9; omega))
          have HY := hid (show (#[.int .i64 v0, .int .i64 v1, .int .i64 v2] : Array Value)[k]? = some (.int .i64 ([v0, v1, v2].getD k 0)) from rot_cell (l := [v0, v1, v2]) hlt2)
          have HN := hid (show rotS (rotM a b c d) [v0, v1, v2] m (k + 1) = rotS (rotM a b c d) [v0, v1, v2] m k + (rotM a b c d).getD (m * 3 + k) 0 * [v0, v1, v2].getD k 0 from rfl)
          obtain ⟨K1, hK1, hK2, hK3, hK4⟩ := rotK_next hlt2
          have HK := hid hK3
          generalize (rotM a b c d).getD (m * 3 + k) 0 = x at *
          generalize [v0, v1, v2].getD k 0 = y at *
          generalize rotS (rotM a b c d) [v0, v1, v2] m k = S at *
          generalize rotK k = K0 at *
          have HADD := hid (fun W' u u' h h' => qadd_any (S : Rat) ((x : Rat) * (y : Rat)) K1 u u' W' h h' hK4)
          have HMUL := hid (fun W' u u' h h' => qmul_any (x : Rat) (y : Rat) 4 u u' W' h h' (by decide))
          have HX4 := hid (fun W' => HWH.out x hx W')
          have HY4 := hid (fun W' => HWH.out y hy W')
          have HQ8 := hid hK2
          have HQK := hid hK1
          clear hC2 hR2 hB2 q0 q1 q2 hq hx hy hK1 hK2 hK3 hK4
          have hdk : decide ((k : Int) < 3) = true := by simp; omega
          go_wp2_with fail
          refine gen_world (fun W0 hW0 => ?_)
          have HB0 := hid (show Below w.heap.size w W0 by rw [hW0]; exact HBW.out)
          have G3 := hid (show W0.heap[w.heap.size + 1]? = some (.cells #[.int .i64 v0, .int .i64 v1, .int .i64 v2] 26) by rw [hW0]; exact F3.out)
          have G5 := hid (show W0.heap[w.heap.size + 1 + 1 + 1]? = some (.cells ((rotM a b c d).map (Value.int .i64)).toArray 133) by rw [hW0]; exact F5.out)
          have G6 := hid (show W0.heap[w.heap.size + 1 + 1 + 1 + 1]? = some (.cells C2 37) by rw [hW0]; exact FC2.out)
          have HQW := hid (show QAt W0 (.agg #[.bool sq, .slice aq pq cq, .slice bq rq dq]) (S : Rat) K0 by rw [hW0]; exact HQQ.out)
          have HBG := hid (show Below (w.heap.size + 1 + 1 + 1 + 1) W W0 by rw [hW0]; exact HB2.out)
          have HRG := hid (show ∀ j, j < m → QCells C2 (j * 3) W0 ((rotS (rotM a b c d) [v0, v1, v2] j 3 : Int) : Rat) 533 by rw [hW0]; exact HR2.out)
          clear hW0 HI
          have hszG := HBG.out.size
          refine gen_act (fun A0 hA => ?_)
          refine wp_region_last (by kernel_rfl) (by kernel_rfl) [some 163, some 164, some 165, some 166, some 167, some 168, some 169, some 170, some 171, some 172, some 173, some 174, some 175, some 176, some 177, some 178, some 179, none] rfl (by decide) 17 rfl (by kernel_rfl) (by kernel_rfl)
            [IsV (.int .i64 (m : Int)), IsV (.int .i64 (m : Int)), IsV (.pointer (some ⟨w.heap.size + 1 + 1 + 1 + 1, m * 3, none⟩)), IsV (.agg #[.bool sq, .slice aq pq cq, .slice bq rq dq]), IsV (.int .i64 (m : Int)), IsV (.int .i64 (k : Int)), IsV (.pointer (some ⟨w.heap.size + 1 + 1 + 1, m * 3, none⟩)), IsV (.pointer (some ⟨w.heap.size + 1 + 1 + 1, m * 3 + k, none⟩)), IsV (.int .i64 x), fun W v => QAt W v (x : Rat) 4, IsV (.int .i64 (k : Int)), IsV (.pointer (some ⟨w.heap.size + 1, k, none⟩)), IsV (.int .i64 y), fun W v => QAt W v (y : Rat) 4, fun W v => QAt W v ((x : Rat) * (y : Rat)) 8, fun W v => QAt W v ((S : Rat) + (x : Rat) * (y : Rat)) (4 * K1 + 1), IsV (.pointer (some ⟨w.heap.size + 1 + 1 + 1 + 1, m * 3, none⟩))]
            ⟨IsV.stb _, IsV.stb _, IsV.stb _, IsV.stb _, IsV.stb _, IsV.stb _, IsV.stb _, IsV.stb _, IsV.stb _, QAt.stb _ _, IsV.stb _, IsV.stb _, IsV.stb _, QAt.stb _ _, QAt.stb _ _, QAt.stb _ _, IsV.stb _, trivial⟩ ?hs1_10_W1 ?hlast_10_W1
          case hs1_10_W1 =>
            refine ⟨?_, ?_, ?_, ?_, ?_, ?_, ?_, ?_, ?_, ?_, ?_, ?_, ?_, ?_, ?_, ?_, ?_, trivial⟩
            · intro K us W hK0 hB hd
              have hK := hid hK0; clear hK0
              have HBW := hid hB
              have hsW := hB.size
              have GB := hid (HB0.out.trans (hB.mono HB0.out.size))
              clear hd
              simp only [putF]
              rw [hA]
              go_frame
              go_wp2_with fail
              exact hK.out _ _ _ (by rw [hA]; simp only [putF]; kernel_rfl) (Below.refl _ _) rfl
            · intro K us W hK0 hB hd
              have hK := hid hK0; clear hK0
              have HBW := hid hB
              have hsW := hB.size
              have GB := hid (HB0.out.trans (hB.mono HB0.out.size))
              clear hd
              simp only [putF]
              rw [hA]
              go_frame
              go_wp2_with fail
              exact hK.out _ _ _ (by rw [hA]; simp only [putF]; kernel_rfl) (Below.refl _ _) rfl
            · intro K us W hK0 hB hd
              have hK := hid hK0; clear hK0
              have HBW := hid hB
              have hsW := hB.size
              have GB := hid (HB0.out.trans (hB.mono HB0.out.size))
              have e1 : us 1 = .int .i64 (m : Int) := hd ⟨1, Ground.data⟩ (by simp) rfl
              clear hd
              simp only [putF]
              rw [hA, e1]
              go_frame
              go_wp2_with fail
              exact hK.out _ _ _ (by rw [hA]; simp only [putF]; rw [e1]; kernel_rfl) (Below.refl _ _) rfl
            · intro K us W hK0 hB hd
              have hK := hid hK0; clear hK0
              have HBW := hid hB
              have hsW := hB.size
              have GB := hid (HB0.out.trans (hB.mono HB0.out.size))
              have e2 : us 2 = .pointer (some ⟨w.heap.size + 1 + 1 + 1 + 1, m * 3, none⟩) := hd ⟨2, Ground.data⟩ (by simp) rfl
              clear hd
              have c0 : W.cell? ⟨w.heap.size + 1 + 1 + 1 + 1, m * 3, none⟩ = some (.bool sq) := (cell_row (heap_still hB G6.out)).trans HQ0.out
              have c1 : W.cell? ⟨w.heap.size + 1 + 1 + 1 + 1, m * 3 + 1, none⟩ = some (.slice aq pq cq) := (cell_row (heap_still hB G6.out)).trans HQ1.out
              have c2 : W.cell? ⟨w.heap.size + 1 + 1 + 1 + 1, m * 3 + 2, none⟩ = some (.slice bq rq dq) := (cell_row (heap_still hB G6.out)).trans HQ2.out
              simp only [putF]
              rw [hA, e2]
              go_frame
              go_wp2_with fail
              exact hK.out _ _ _ (by rw [hA]; simp only [putF]; rw [e2]; kernel_rfl) (Below.refl _ _) rfl
            · intro K us W hK0 hB hd
              have hK := hid hK0; clear hK0
              have HBW := hid hB
              have hsW := hB.size
              have GB := hid (HB0.out.trans (hB.mono HB0.out.size))
              clear hd
              simp only [putF]
              rw [hA]
              go_frame
              go_wp2_with fail
              exact hK.out _ _ _ (by rw [hA]; simp only [putF]; kernel_rfl) (Below.refl _ _) rfl
            · intro K us W hK0 hB hd
              have hK := hid hK0; clear hK0
              have HBW := hid hB
              have hsW := hB.size
              have GB := hid (HB0.out.trans (hB.mono HB0.out.size))
              clear hd
              simp only [putF]
              rw [hA]
              go_frame
              go_wp2_with fail
              exact hK.out _ _ _ (by rw [hA]; simp only [putF]; kernel_rfl) (Below.refl _ _) rfl
            · intro K us W hK0 hB hd
              have hK := hid hK0; clear hK0
              have HBW := hid hB
              have hsW := hB.size
              have GB := hid (HB0.out.trans (hB.mono HB0.out.size))
              have e4 : us 4 = .int .i64 (m : Int) := hd ⟨4, Ground.data⟩ (by simp) rfl
              clear hd
              simp only [putF]
              rw [hA, e4]
              go_frame
              go_wp2_with fail
              exact hK.out _ _ _ (by rw [hA]; simp only [putF]; rw [e4]; kernel_rfl) (Below.refl _ _) rfl
            · intro K us W hK0 hB hd
              have hK := hid hK0; clear hK0
              have HBW := hid hB
              have hsW := hB.size
              have GB := hid (HB0.out.trans (hB.mono HB0.out.size))
              have e6 : us 6 = .pointer (some ⟨w.heap.size + 1 + 1 + 1, m * 3, none⟩) := hd ⟨6, Ground.data⟩ (by simp) rfl
              have e5 : us 5 = .int .i64 (k : Int) := hd ⟨5, Ground.data⟩ (by simp) rfl
              clear hd
              simp only [putF]
              rw [hA, e6, e5]
              go_frame
              go_wp2_with fail
              exact hK.out _ _ _ (by rw [hA]; simp only [putF]; rw [e6, e5]; kernel_rfl) (Below.refl _ _) rfl
            · intro K us W hK0 hB hd
              have hK := hid hK0; clear hK0
              have HBW := hid hB
              have hsW := hB.size
              have GB := hid (HB0.out.trans (hB.mono HB0.out.size))
              have e7 : us 7 = .pointer (some ⟨w.heap.size + 1 + 1 + 1, m * 3 + k, none⟩) := hd ⟨7, Ground.data⟩ (by simp) rfl
              clear hd
              have c0 : W.cell? ⟨w.heap.size + 1 + 1 + 1, m * 3 + k, none⟩ = some (.int .i64 x) := (cell_row (heap_still hB G5.out)).trans HX.out
              simp only [putF]
              rw [hA, e7]
              go_frame
              go_wp2_with fail
              exact hK.out _ _ _ (by rw [hA]; simp only [putF]; rw [e7]; kernel_rfl) (Below.refl _ _) rfl
            · intro K us W hK0 hB hd
              have hK := hid hK0; clear hK0
              have HBW := hid hB
              have hsW := hB.size
              have GB := hid (HB0.out.trans (hB.mono HB0.out.size))
              have e8 : us 8 = .int .i64 x := hd ⟨8, Ground.data⟩ (by simp) rfl
              clear hd
              simp only [putF]
              rw [hA, e8]
              go_frame
              go_wp2_with fail
              refine (HX4.out W).mono ?_
              rintro r W' ⟨⟨v, rfl, hv⟩, hb⟩
              go_wp2_with fail
              exact hK.out _ _ _ (by rw [hA]; simp only [putF]; rw [e8]; kernel_rfl) hb hv
            · intro K us W hK0 hB hd
              have hK := hid hK0; clear hK0
              have HBW := hid hB
              have hsW := hB.size
              have GB := hid (HB0.out.trans (hB.mono HB0.out.size))
              clear hd
              simp only [putF]
              rw [hA]
              go_frame
              go_wp2_with fail
              exact hK.out _ _ _ (by rw [hA]; simp only [putF]; kernel_rfl) (Below.refl _ _) rfl
            · intro K us W hK0 hB hd
              have hK := hid hK0; clear hK0
              have HBW := hid hB
              have hsW := hB.size
              have GB := hid (HB0.out.trans (hB.mono HB0.out.size))
              have e10 : us 10 = .int .i64 (k : Int) := hd ⟨10, Ground.data⟩ (by simp) rfl
              clear hd
              simp only [putF]
              rw [hA, e10]
              go_frame
              go_wp2_with fail
              exact hK.out _ _ _ (by rw [hA]; simp only [putF]; rw [e10]; kernel_rfl) (Below.refl _ _) rfl
            · intro K us W hK0 hB hd
              have hK := hid hK0; clear hK0
              have HBW := hid hB
              have hsW := hB.size
              have GB := hid (HB0.out.trans (hB.mono HB0.out.size))
              have e11 : us 11 = .pointer (some ⟨w.heap.size + 1, k, none⟩) := hd ⟨11, Ground.data⟩ (by simp) rfl
              clear hd
              have c0 : W.cell? ⟨w.heap.size + 1, k, none⟩ = some (.int .i64 y) := (cell_row (heap_still hB G3.out)).trans HY.out
              simp only [putF]
              rw [hA, e11]
              go_frame
              go_wp2_with fail
              exact hK.out _ _ _ (by rw [hA]; simp only [putF]; rw [e11]; kernel_rfl) (Below.refl _ _) rfl
            · intro K us W hK0 hB hd
              have hK := hid hK0; clear hK0
              have HBW := hid hB
              have hsW := hB.size
              have GB := hid (HB0.out.trans (hB.mono HB0.out.size))
              have e12 : us 12 = .int .i64 y := hd ⟨12, Ground.data⟩ (by simp) rfl
              clear hd
              simp only [putF]
              rw [hA, e12]
              go_frame
              go_wp2_with fail
              refine (HY4.out W).mono ?_
              rintro r W' ⟨⟨v, rfl, hv⟩, hb⟩
              go_wp2_with fail
              exact hK.out _ _ _ (by rw [hA]; simp only [putF]; rw [e12]; kernel_rfl) hb hv
            · intro K us W hK0 hB hd
              have hK := hid hK0; clear hK0
              have HBW := hid hB
              have hsW := hB.size
              have GB := hid (HB0.out.trans (hB.mono HB0.out.size))
              have hd9 : (fun W v => QAt W v (x : Rat) 4) W (us 9) := hd ⟨9, Ground.data⟩ (by simp) rfl
              obtain ⟨cs9, e9, hcs9, hco9⟩ := hd9.cells
              rw [e9] at hd9
              have HH9 := hid hd9
              clear hd9
              have hd13 : (fun W v => QAt W v (y : Rat) 4) W (us 13) := hd ⟨13, Ground.data⟩ (by simp) rfl
              obtain ⟨cs13, e13, hcs13, hco13⟩ := hd13.cells
              rw [e13] at hd13
              have HH13 := hid hd13
              clear hd13
              clear hd
              simp only [putF]
              rw [hA, e9, e13]
              go_frame
              go_wp2_with fail
              refine (HMUL.out W _ _ HH9.out HH13.out).mono ?_
              rintro r W' ⟨⟨v, rfl, hv⟩, hb⟩
              go_wp2_with fail
              exact hK.out _ _ _ (by rw [hA]; simp only [putF]; rw [e9, e13]; kernel_rfl) hb hv
            · intro K us W hK0 hB hd
              have hK := hid hK0; clear hK0
              have HBW := hid hB
              have hsW := hB.size
              have GB := hid (HB0.out.trans (hB.mono HB0.out.size))
              have e3 : us 3 = .agg #[.bool sq, .slice aq pq cq, .slice bq rq dq] := hd ⟨3, Ground.data⟩ (by simp) rfl
              have hd14 : (fun W v => QAt W v ((x : Rat) * (y : Rat)) 8) W (us 14) := hd ⟨14, Ground.data⟩ (by simp) rfl
              obtain ⟨cs14, e14, hcs14, hco14⟩ := hd14.cells
              rw [e14] at hd14
              have HH14 := hid hd14
              clear hd14
              clear hd
              simp only [putF]
              rw [hA, e3, e14]
              go_frame
              go_wp2_with fail
              refine (HADD.out W _ _ ((HQW.out.grow hB).wide HQK.out) (HH14.out.wide HQ8.out)).mono ?_
              rintro r W' ⟨⟨v, rfl, hv⟩, hb⟩
              go_wp2_with fail
              exact hK.out _ _ _ (by rw [hA]; simp only [putF]; rw [e3, e14]; kernel_rfl) hb hv
            · intro K us W hK0 hB hd
              have hK := hid hK0; clear hK0
              have HBW := hid hB
              have hsW := hB.size
              have GB := hid (HB0.out.trans (hB.mono HB0.out.size))
              have e0 : us 0 = .int .i64 (m : Int) := hd ⟨0, Ground.data⟩ (by simp) rfl
              clear hd
              simp only [putF]
              rw [hA, e0]
              go_frame
              go_wp2_with fail
              exact hK.out _ _ _ (by rw [hA]; simp only [putF]; rw [e0]; kernel_rfl) (Below.refl _ _) rfl
          intro K us W1 hK0 hB hp
          have hK := hid hK0
          clear hK0
          have e16 : us 16 = .pointer (some ⟨w.heap.size + 1 + 1 + 1 + 1, m * 3, none⟩) := hp 16 (by decide)
          have hd15 : (fun W v => QAt W v ((S : Rat) + (x : Rat) * (y : Rat)) (4 * K1 + 1)) W1 (us 15) := hp 15 (by decide)
          obtain ⟨cs15, e15, hcs15, hco15⟩ := hd15.cells
          rw [e15] at hd15
          have HH15 := hid hd15
          clear hd15
          have HB1 := hid (HB0.out.trans (hB.mono HB0.out.size))
          have HSW1 := hid (fun n x => @heap_still _ _ n x hB)
          have hzW1 := hB.size
          have hbW1 := hid hB
          clear hp
          simp only [putF]
          rw [hA, e16, e15]
          skip
          go_frame
          go_wp2_with (refine pt_store rfl 35 (.tmp 179) (.tmp 178) rfl _ _ _ rfl rfl (HSW1.out _ _ G6.out) size35 hcs15 (by omega) hco15 ?_)
          refine hK.out undef _ _ (by rw [hA]; simp only [putF]; rw [e16, e15]; kernel_rfl) ?_
          clear hK hB hA e16 e15
          go_wp2_with fail
          refine ⟨⟨k + 1, by omega, by go_num, _, setRow_heap _ _ _ _ _ _ (HSW1.out _ _ G6.out), by rw [ptL_size]; exact hC9, fun j hj => ((HRG.out j hj).grow hbW1.out).other (HSW1.out _ _ G6.out) (by decide) hcs15 (by omega), ?_, below_setRow (HBG.out.trans (hbW1.out.mono (by omega))) (Nat.le_refl _) _⟩, by simp [intOf]; omega⟩
          have h5 := QCells.put HH15.out (HSW1.out _ _ G6.out) (by decide) (C := C2) (o := m * 3) (by omega)
          rw [HN.out, ← HK.out, Rat.intCast_add, Rat.intCast_mul]
          exact h5
        · have : k = 3 := by omega
          subst this
          go_wp2_with fail
          refine ⟨⟨m + 1, by omega, by go_num, ?_⟩, by simp [intOf]; omega⟩
          obtain ⟨C2, hC2, hC9, hR2, hQ2, hB2⟩ := HI.out
          exact ⟨C2, hC2, hC9, fun j hj => (by
            rcases Nat.lt_or_ge j m with h | h
            · exact hR2 j h
            · obtain rfl : j = m := by omega
              exact hQ2), hB2⟩
    · have : m = 3 := by omega
      subst this
      obtain ⟨C2, hC2, hC9, hR2, hB2⟩ := HS.out
      have hszw := hB2.size
      have FC2 := hid hC2
      have HR2 := hid hR2
      have HBW := hid (hb0.out.trans (hB2.mono (by omega)))
      have F4 := hid (heap_below hB2 (by omega) f4.out)
      obtain ⟨s0, a0, p0, c0, b0, r0, d0, x0, x1, x2, hq0⟩ := hR2 0 (by decide)
      obtain ⟨s1, a1, p1, c1, b1, r1, d1, x3, x4, x5, hq1⟩ := hR2 1 (by decide)
      obtain ⟨s2, a2, p2, c2, b2, r2, d2, x6, x7, x8, hq2⟩ := hR2 2 (by decide)
      have HC := hid (nine hC9 x0 x1 x2 x3 x4 x5 x6 x7 x8)
      clear hC2 hR2 hB2 x0 x1 x2 x3 x4 x5 x6 x7 x8 hq0 hq1 hq2
      have hco : C2.toList.all (·.oneCell') = true := by rw [HC.out]; rfl
      go_wp2_with (first | (refine wpList_load_at rfl 37 (.tmp 6) rfl rfl FC2.out Try.underlying37 rfl size37 hC9 ?_) | (refine wpList_store_at rfl 37 (.tmp 4) (.tmp 182) rfl rfl rfl F4.out size37 hC9 rfl hco ?_))
      refine bodyPost_ret (results_at1 rfl rfl (setRow_heap _ _ _ _ _ _ F4.out) Try.underlying37 rfl size37 hC9) rfl ?_
      exact ⟨⟨C2, rfl, hC9, hco, fun i hi => (HR2.out i hi).row37 F4.out⟩, below_setRow HBW.out (by omega) _⟩
end Go.Proofs.Yteoikaedpgianaa
