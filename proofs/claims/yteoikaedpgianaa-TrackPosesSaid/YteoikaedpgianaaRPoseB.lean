/- The reference's pose within a part, between two fixes. -/
import Derived.Test.YteoikaedpgianaaPoseAt
import Derived.Test.YteoikaedpgianaaMix
namespace Go.Proofs.Yteoikaedpgianaa
open Go.RowKit Limb

theorem bend_ceil (m u v : Int) : ((m : Rat) * (u : Rat) * (v : Rat) / ((2000000000000 : Int) : Rat)).ceil = -(-(m * u * v) / 2000000000000) := by
  rw [← Rat.intCast_mul, ← Rat.intCast_mul, Rat.ceil_eq_neg_floor_neg, ← floor_div _ _ (by decide), Rat.div_def, Rat.div_def, ← Rat.neg_mul, Rat.intCast_neg]
/-- the reference's means, with their bounds -/
theorem mixes {a b : Nat → Int} {u v : Int} (fa : fixF a = true) (fb : fixF b = true) (hu : 0 ≤ u) (hv : 0 ≤ v) (hd : 0 < u + v ∧ u + v ≤ 10000000) (j : Nat) (hj : j < 3) :
    ∃ l h : Int, l = ((a (j + 1) - a 4) * v + (b (j + 1) - b 4) * u) / (u + v) ∧ h = -(-((a (j + 1) + a 4) * v + (b (j + 1) + b 4) * u) / (u + v)) ∧ (-3000000000000000 ≤ l ∧ l ≤ 3000000000000000) ∧ (-3000000000000000 ≤ h ∧ h ≤ 3000000000000000) ∧
      (∀ W, Calls Try.prog 153 #[.int .i64 (a (j + 1) - a 4), .int .i64 v, .int .i64 (b (j + 1) - b 4), .int .i64 u, .bool false] W fun r w' => r = .returned (.int .i64 l) ∧ Below W.heap.size W w') ∧
      (∀ W, Calls Try.prog 153 #[.int .i64 (a (j + 1) + a 4), .int .i64 v, .int .i64 (b (j + 1) + b 4), .int .i64 u, .bool true] W fun r w' => r = .returned (.int .i64 h) ∧ Below W.heap.size W w') := by
  have pa := fix_place fa
  have pb := fix_place fb
  have hi : (-134217728 ≤ a (j + 1) ∧ a (j + 1) ≤ 134217728) ∧ (-134217728 ≤ b (j + 1) ∧ b (j + 1) ≤ 134217728) := by
    match j, hj with
    | 0, _ => exact ⟨pa.1, pb.1⟩
    | 1, _ => exact ⟨pa.2.1, pb.2.1⟩
    | 2, _ => exact ⟨pa.2.2.1, pb.2.2.1⟩
  have p1 := mul_in (x := a (j + 1) - a 4) (y := v) (l := 134317728) (m := 10000000) (by omega) (by omega)
  have p2 := mul_in (x := b (j + 1) - b 4) (y := u) (l := 134317728) (m := 10000000) (by omega) (by omega)
  have p3 := mul_in (x := a (j + 1) + a 4) (y := v) (l := 134317728) (m := 10000000) (by omega) (by omega)
  have p4 := mul_in (x := b (j + 1) + b 4) (y := u) (l := 134317728) (m := 10000000) (by omega) (by omega)
  have d1 := div_bd (a := (a (j + 1) - a 4) * v + (b (j + 1) - b 4) * u) (b := u + v) (l := 2686354560000000) (by omega) (by omega) (by omega)
  have d2 := div_bd (a := -((a (j + 1) + a 4) * v + (b (j + 1) + b 4) * u)) (b := u + v) (l := 2686354560000000) (by omega) (by omega) (by omega)
  exact ⟨_, _, rfl, rfl, by omega, by omega, fun W => mix_low _ _ _ _ W (by omega) (by omega) (by omega) (by omega) hd.1 (by omega), fun W => mix_high _ _ _ _ W (by omega) (by omega) (by omega) (by omega) hd.1 (by omega)⟩
theorem bend_bd {m u v : Int} (hm : 0 ≤ m ∧ m ≤ 100000) (hu : 0 ≤ u) (hv : 0 ≤ v) (hd : u + v ≤ 10000000) : 0 ≤ -(-(m * u * v) / 2000000000000) ∧ -(-(m * u * v) / 2000000000000) ≤ 1250001 := by
  have k0 := uv_bd (u := u) (v := v) hu hv (by omega)
  have k2 := mul_in (x := m) (y := u * v) (l := 100000) (m := 25000000000000) (by omega) k0
  have k3 : 0 ≤ m * (u * v) := Int.mul_nonneg hm.1 k0.1
  rw [← Int.mul_assoc] at k2 k3
  omega
/-- two stores in drawn order into one block, beside values that do not ask for them -/
structure TwoS (W0 W1 W2 : World) (vs : List Value) (L : Nat → Bool) (us : Nat → Value) (W : World) : Prop where
  vals : ∀ j, L j = true → j ≠ 5 → j ≠ 7 → us j = vs.getD j undef
  ord : L 7 = true → L 5 = true
  wld : W = if L 7 = true then W2 else if L 5 = true then W1 else W0
section
variable {W0 W1 W2 W : World} {vs : List Value} {L : Nat → Bool} {us : Nat → Value} {v : Value}
theorem TwoS.start : TwoS W0 W1 W2 vs (fun _ => false) us W0 := ⟨fun _ h => (Bool.false_ne_true h).elim, fun h => (Bool.false_ne_true h).elim, rfl⟩
theorem TwoS.pure (k : Nat) (h : TwoS W0 W1 W2 vs L us W) (h5 : k ≠ 5) (h7 : k ≠ 7) (hv : v = vs.getD k undef) : TwoS W0 W1 W2 vs (fun j => j == k || L j) (updF us k v) W := by
  have e5 : (5 == k || L 5) = L 5 := by rw [show (5 == k) = false from beq_false_of_ne (Ne.symm h5), Bool.false_or]
  have e7 : (7 == k || L 7) = L 7 := by rw [show (7 == k) = false from beq_false_of_ne (Ne.symm h7), Bool.false_or]
  refine ⟨fun j hj j5 j7 => ?_, fun h1 => ?_, ?_⟩
  · by_cases hjk : j = k
    · subst hjk; simp [updF, hv]
    · have e : updF us k v j = us j := by simp [updF, hjk]
      rw [e]
      exact h.vals j (by simpa [hjk] using hj) j5 j7
  · simp only [e5, e7] at h1 ⊢
    exact h.ord h1
  · simp only [e5, e7]
    exact h.wld
theorem TwoS.fst (h : TwoS W0 W1 W2 vs L us W) (h5 : L 5 = false) : W = W0 ∧ TwoS W0 W1 W2 vs (fun j => j == 5 || L j) (updF us 5 v) W1 := by
  have h7 : L 7 = false := by
    cases h7 : L 7
    · rfl
    · rw [h.ord h7] at h5; cases h5
  refine ⟨by have := h.wld; rw [h7, h5] at this; simpa using this, fun j hj j5 j7 => ?_, fun _ => rfl, ?_⟩
  · have e : updF us 5 v j = us j := by simp [updF, j5]
    rw [e]
    exact h.vals j (by simpa [j5] using hj) j5 j7
  · simp [h7]
theorem TwoS.snd (h : TwoS W0 W1 W2 vs L us W) (h5 : L 5 = true) (h7 : L 7 = false) : W = W1 ∧ TwoS W0 W1 W2 vs (fun j => j == 7 || L j) (updF us 7 v) W2 := by
  refine ⟨by have := h.wld; rw [h7, h5] at this; simpa using this, fun j hj j5 j7 => ?_, fun _ => ?_, ?_⟩
  · have e : updF us 7 v j = us j := by simp [updF, j7]
    rw [e]
    exact h.vals j (by simpa [j7] using hj) j5 j7
  · show ((5 : Nat) == 7 || L 5) = true
    rw [h5]; rfl
  · rfl
theorem TwoS.cell (h : TwoS W0 W1 W2 vs L us W) {n : Nat} {x : Obj} (h0 : W0.heap[n]? = some x) (h1 : W1.heap[n]? = some x) (h2 : W2.heap[n]? = some x) : W.heap[n]? = some x := by
  rw [h.wld]
  split
  · exact h2
  · split
    · exact h1
    · exact h0
end
/-- the six numbers of a place, of which the first 2 k are written; and one more -/
def poseC (l h : Nat → Int) (n : Int) (k : Nat) (i : Nat) : Int := if i < 2 * k then (if i % 2 = 0 then l (i / 2) - n else h (i / 2) + n) else 0
def poseD (l h : Nat → Int) (n : Int) (k : Nat) (i : Nat) : Int := if i = 2 * k then l k - n else poseC l h n k i
theorem pose_low (l h : Nat → Int) (n : Int) (k : Nat) (a : Nat → Int) (hk : k < 3) : ptL #[.int .i64 (poseC l h n k 0), .int .i64 (poseC l h n k 1), .int .i64 (poseC l h n k 2), .int .i64 (poseC l h n k 3), .int .i64 (poseC l h n k 4), .int .i64 (poseC l h n k 5), .int .i64 (a 5), .int .i64 (a 6), .int .i64 (a 7), .int .i64 (a 8), .int .i64 (a 9)] (k * 2) [.int .i64 (l k - n)] = #[.int .i64 (poseD l h n k 0), .int .i64 (poseD l h n k 1), .int .i64 (poseD l h n k 2), .int .i64 (poseD l h n k 3), .int .i64 (poseD l h n k 4), .int .i64 (poseD l h n k 5), .int .i64 (a 5), .int .i64 (a 6), .int .i64 (a 7), .int .i64 (a 8), .int .i64 (a 9)] := by
  match k, hk with
  | 0, _ => rfl
  | 1, _ => rfl
  | 2, _ => rfl
theorem pose_high (l h : Nat → Int) (n : Int) (k : Nat) (a : Nat → Int) (hk : k < 3) : ptL #[.int .i64 (poseD l h n k 0), .int .i64 (poseD l h n k 1), .int .i64 (poseD l h n k 2), .int .i64 (poseD l h n k 3), .int .i64 (poseD l h n k 4), .int .i64 (poseD l h n k 5), .int .i64 (a 5), .int .i64 (a 6), .int .i64 (a 7), .int .i64 (a 8), .int .i64 (a 9)] (k * 2 + 1) [.int .i64 (h k + n)] = #[.int .i64 (poseC l h n (k + 1) 0), .int .i64 (poseC l h n (k + 1) 1), .int .i64 (poseC l h n (k + 1) 2), .int .i64 (poseC l h n (k + 1) 3), .int .i64 (poseC l h n (k + 1) 4), .int .i64 (poseC l h n (k + 1) 5), .int .i64 (a 5), .int .i64 (a 6), .int .i64 (a 7), .int .i64 (a 8), .int .i64 (a 9)] := by
  match k, hk with
  | 0, _ => rfl
  | 1, _ => rfl
  | 2, _ => rfl
theorem mid_cell (a : Nat → Int) (k : Nat) (hk : k < 3) : (#[.int .i64 (a 0), .int .i64 (a 1), .int .i64 (a 2), .int .i64 (a 3), .int .i64 (a 4), .int .i64 (a 5), .int .i64 (a 6), .int .i64 (a 7), .int .i64 (a 8), .int .i64 (a 9)] : Array Value)[1 + k]? = some (.int .i64 (a (k + 1))) := by
  match k, hk with
  | 0, _ => rfl
  | 1, _ => rfl
  | 2, _ => rfl
set_option maxRecDepth 100000 in
set_option maxHeartbeats 32000000 in
theorem rposeB_any (b o L C J : Nat) (F : Nat → Nat → Int) (m0 m1 m2 m3 time : Int) (w : World) (hb : b < w.heap.size) (hr : recs10 w b o L F) (hL : L ≤ 9223372036854775807) (hJ : J + 1 < L) (hle : ∀ j, j ≤ J → F j 0 < time)
    (hnx : time < F (J + 1) 0) (hfa : fixF (F J) = true) (hfb : fixF (F (J + 1)) = true) (hm2 : 0 ≤ m2 ∧ m2 ≤ 100000) (hm3 : 0 ≤ m3 ∧ m3 ≤ 10000000) (hgap : F (J + 1) 0 - F J 0 ≤ 10000000) :
    Calls Try.prog 114 #[.slice (some ⟨b, o, none⟩) L C, .agg #[.int .i64 m0, .int .i64 m1, .int .i64 m2, .int .i64 m3], .int .i64 time] w fun r w' => r = .returned (betV (F J) (F (J + 1)) m2 m3 time) ∧ Below w.heap.size w w' := by
  have HR := hid hr
  have HLE := hid hle
  have HNX := hid hnx
  have hlt := hle J (Nat.le_refl _)
  have HLT := hid hlt
  have HFA := hid hfa
  have HFB := hid hfb
  have HGAP := hid hgap
  have HM2 := hid hm2
  have HM3 := hid hm3
  obtain ⟨res, hres⟩ : ∃ x, x = betV (F J) (F (J + 1)) m2 m3 time := ⟨_, rfl⟩
  rw [← hres]
  have HRES := hid hres
  clear hres
  clear hr hle hnx hlt hfa hfb hgap hm2 hm3
  go_enter Try.func114, Try.ntmps114
  go_wp2_with fail
  go_loopw [7] (fun i W => ∃ (k : Nat), k ≤ J ∧ i = .int .i64 k ∧ Below w.heap.size w W ∧ W.heap[w.heap.size]? = some (.cells #[.int .i64 m0, .int .i64 m1, .int .i64 m2, .int .i64 m3] 61) ∧ W.heap[w.heap.size + 1]? = some (.cells #[.int .i64 0, .int .i64 0, .int .i64 0, .int .i64 0, .int .i64 0, .int .i64 0, .int .i64 0, .int .i64 0, .int .i64 0, .int .i64 0, .int .i64 0] 80)) (fun i _ => J - (intOf i).toNat)
  case atStart => exact ⟨0, by omega, rfl, by (repeat' (first | (with_reducible exact Below.refl _ _) | (with_reducible assumption) | (with_reducible refine Below.alloc ?_ ?_ _) | (with_reducible refine Below.drew ?_) | (with_reducible refine below_drewN ?_ _) | (with_reducible refine Below.setCell ?_ ?_ _) | (with_reducible refine below_setRow ?_ ?_ _) | go_size)), (by repeat' (first | (refine heap_alloc_at _ _ _ ?_; (first | rfl | (simp; done) | (simp; omega))) | (refine heap_alloc_past _ _ _ _ ?_))), (by repeat' (first | (refine heap_alloc_at _ _ _ ?_; (first | rfl | (simp; done) | (simp; omega))) | (refine heap_alloc_past _ _ _ _ ?_)))⟩
  case round =>
    obtain ⟨k, hk, rfl, hB, hM, hD⟩ := hrel
    have HBwr := hid hB
    have HM := hid hM
    have HD := hid hD
    have HRW := hid (HR.out.still hB hb)
    have hb9 : b < wr.heap.size := Nat.lt_of_lt_of_le hb hB.size
    have hszr : w.heap.size + 1 < wr.heap.size := (Array.getElem?_eq_some_iff.1 hD).1
    clear hB hM hD
    by_cases hkJ : k < J
    · have z0 := HRW.out (k + 1) (by omega) 0 (by omega)
      simp only [Nat.add_zero] at z0
      have hf := HLE.out (k + 1) (by omega)
      go_wp2_with fail
      go_roundw
      case rel => exact ⟨k + 1, by omega, by go_num, HBwr.out, HM.out, HD.out⟩
      case measure => simp [intOf]; omega
    · obtain rfl : k = J := by omega
      have z0 := HRW.out (k + 1) (by omega) 0 (by omega)
      simp only [Nat.add_zero] at z0
      have hf := HNX.out
      have hf2 := HLT.out
      have hbq : (F k 0 == time) = false := beq_eq_false_iff_ne.2 (by omega)
      clear hf2
      have hr := HRW.out (k) (by omega)
      have c0 := hr 0 (by omega)
      simp only [Nat.add_zero] at c0
      have c1 := hr 1 (by omega)
      have c2 := hr 2 (by omega)
      have c3 := hr 3 (by omega)
      have c4 := hr 4 (by omega)
      have c5 := hr 5 (by omega)
      have c6 := hr 6 (by omega)
      have c7 := hr 7 (by omega)
      have c8 := hr 8 (by omega)
      have c9 := hr 9 (by omega)
      clear hr
      have hr := HRW.out (k + 1) (by omega)
      have d0 := hr 0 (by omega)
      simp only [Nat.add_zero] at d0
      have d1 := hr 1 (by omega)
      have d2 := hr 2 (by omega)
      have d3 := hr 3 (by omega)
      have d4 := hr 4 (by omega)
      have d5 := hr 5 (by omega)
      have d6 := hr 6 (by omega)
      have d7 := hr 7 (by omega)
      have d8 := hr 8 (by omega)
      have d9 := hr 9 (by omega)
      clear hr
      go_wp2_with (first | (refine pt_load rfl 22 (.tmp 38) rfl wr.heap.size 5 rfl [.int .i64 (F k 5), .int .i64 (F k 6), .int .i64 (F k 7), .int .i64 (F k 8)] (heap_alloc_at _ _ _ rfl) rfl Try.underlying22 rfl size22 ?_) | (refine wpList_store_new rfl 55 (.tmp 8) (.tmp 37) rfl rfl rfl rfl size55 rfl rfl rfl ?_) | (refine wpList_store_new rfl 80 (.tmp 9) (.tmp 42) rfl rfl rfl rfl size80b rfl rfl rfl ?_) | (refine wpList_store_new rfl 55 (.tmp 11) (.tmp 74) rfl rfl rfl rfl size55 rfl rfl rfl ?_))
      have hfx := HLT.out
      have hfy := HNX.out
      have hfg := HGAP.out
      have pa := fix_place HFA.out
      have pb := fix_place HFB.out
      have ga := fix_tilt HFA.out
      have gb := fix_tilt HFB.out
      obtain ⟨l, h, hlh⟩ : ∃ l h : Nat → Int, ∀ j, j < 3 → l j = ((F k (j + 1) - F k 4) * (F (k + 1) 0 - time) + (F (k + 1) (j + 1) - F (k + 1) 4) * (time - F k 0)) / (time - F k 0 + (F (k + 1) 0 - time)) ∧ h j = -(-((F k (j + 1) + F k 4) * (F (k + 1) 0 - time) + (F (k + 1) (j + 1) + F (k + 1) 4) * (time - F k 0)) / (time - F k 0 + (F (k + 1) 0 - time))) ∧ ((-3000000000000000 ≤ l j ∧ l j ≤ 3000000000000000) ∧ (-3000000000000000 ≤ h j ∧ h j ≤ 3000000000000000)) ∧
          (∀ W, Calls Try.prog 153 #[.int .i64 (F k (j + 1) - F k 4), .int .i64 (F (k + 1) 0 - time), .int .i64 (F (k + 1) (j + 1) - F (k + 1) 4), .int .i64 (time - F k 0), .bool false] W fun r w' => r = .returned (.int .i64 (l j)) ∧ Below W.heap.size W w') ∧
          (∀ W, Calls Try.prog 153 #[.int .i64 (F k (j + 1) + F k 4), .int .i64 (F (k + 1) 0 - time), .int .i64 (F (k + 1) (j + 1) + F (k + 1) 4), .int .i64 (time - F k 0), .bool true] W fun r w' => r = .returned (.int .i64 (h j)) ∧ Below W.heap.size W w') := by
        refine ⟨fun j => ((F k (j + 1) - F k 4) * (F (k + 1) 0 - time) + (F (k + 1) (j + 1) - F (k + 1) 4) * (time - F k 0)) / (time - F k 0 + (F (k + 1) 0 - time)), fun j => -(-((F k (j + 1) + F k 4) * (F (k + 1) 0 - time) + (F (k + 1) (j + 1) + F (k + 1) 4) * (time - F k 0)) / (time - F k 0 + (F (k + 1) 0 - time))), fun j hj => ?_⟩
        obtain ⟨l0, h0, el0, eh0, bl0, bh0, cl0, ch0⟩ := mixes HFA.out HFB.out (u := time - F k 0) (v := F (k + 1) 0 - time) (by omega) (by omega) (by omega) j hj
        subst el0 eh0
        exact ⟨rfl, rfl, ⟨bl0, bh0⟩, cl0, ch0⟩
      have hab : ∀ j, j < 3 → (-134217728 ≤ F k (j + 1) ∧ F k (j + 1) ≤ 134217728) ∧ (-134217728 ≤ F (k + 1) (j + 1) ∧ F (k + 1) (j + 1) ≤ 134217728) := fun j hj => by
        match j, hj with
        | 0, _ => exact ⟨pa.1, pb.1⟩
        | 1, _ => exact ⟨pa.2.1, pb.2.1⟩
        | 2, _ => exact ⟨pa.2.2.1, pb.2.2.1⟩
      have ha4 : 0 ≤ F k 4 ∧ F k 4 ≤ 100000 := pa.2.2.2.2
      have hb4 : 0 ≤ F (k + 1) 4 ∧ F (k + 1) 4 ≤ 100000 := pb.2.2.2.2
      have bn := bend_bd HM2.out (u := time - F k 0) (v := F (k + 1) 0 - time) (by omega) (by omega) (by omega)
      have key : betV (F k) (F (k + 1)) m2 m3 time = poseA (l 0 - -(-(m2 * (time - F k 0) * (F (k + 1) 0 - time)) / 2000000000000)) (h 0 + -(-(m2 * (time - F k 0) * (F (k + 1) 0 - time)) / 2000000000000)) (l 1 - -(-(m2 * (time - F k 0) * (F (k + 1) 0 - time)) / 2000000000000)) (h 1 + -(-(m2 * (time - F k 0) * (F (k + 1) 0 - time)) / 2000000000000)) (l 2 - -(-(m2 * (time - F k 0) * (F (k + 1) 0 - time)) / 2000000000000)) (h 2 + -(-(m2 * (time - F k 0) * (F (k + 1) 0 - time)) / 2000000000000))
          (if F (k + 1) 0 - time < time - F k 0 then F (k + 1) 5 else F k 5) (if F (k + 1) 0 - time < time - F k 0 then F (k + 1) 6 else F k 6) (if F (k + 1) 0 - time < time - F k 0 then F (k + 1) 7 else F k 7) (if F (k + 1) 0 - time < time - F k 0 then F (k + 1) 8 else F k 8)
          ((if F (k + 1) 0 - time < time - F k 0 then F (k + 1) 9 else F k 9) + upV m3 (if F (k + 1) 0 - time < time - F k 0 then F (k + 1) 0 - time else time - F k 0) 1000000) := by
        rw [(hlh 0 (by decide)).1, (hlh 0 (by decide)).2.1, (hlh 1 (by decide)).1, (hlh 1 (by decide)).2.1, (hlh 2 (by decide)).1, (hlh 2 (by decide)).2.1]
        unfold betV betLo betHi betBend betNear betWay
        split <;> rfl
      have HRES := hid (HRES.out.trans key)
      have HL := hid (fun j (hj : j < 3) => (hlh j hj).2.2.2.1)
      have HH := hid (fun j (hj : j < 3) => (hlh j hj).2.2.2.2)
      have hlb := fun j (hj : j < 3) => (hlh j hj).2.2.1
      clear key hlh pa pb HLE HNX HLT HFA HFB HGAP HR HRW z0 c0 c1 c2 c3 c4 c5 c6 c7 c8 c9 d0 d1 d2 d3 d4 d5 d6 d7 d8 d9 hf hbq
      refine gen_world (fun V hV => ?_)
      have XA := hid (show V.heap[wr.heap.size]? = some (.cells #[.int .i64 (F k 0), .int .i64 (F k 1), .int .i64 (F k 2), .int .i64 (F k 3), .int .i64 (F k 4), .int .i64 (F k 5), .int .i64 (F k 6), .int .i64 (F k 7), .int .i64 (F k 8), .int .i64 (F k 9)] 55) by rw [hV]; (repeat' (first | (refine heap_alloc_at _ _ _ ?_; (first | rfl | (simp; done) | (simp; omega))) | (refine heap_alloc_past _ _ _ _ ?_))); first | done | exact HM.out | exact HD.out)
      have XB := hid (show V.heap[wr.heap.size + 1 + 1]? = some (.cells #[.int .i64 (F (k + 1) 0), .int .i64 (F (k + 1) 1), .int .i64 (F (k + 1) 2), .int .i64 (F (k + 1) 3), .int .i64 (F (k + 1) 4), .int .i64 (F (k + 1) 5), .int .i64 (F (k + 1) 6), .int .i64 (F (k + 1) 7), .int .i64 (F (k + 1) 8), .int .i64 (F (k + 1) 9)] 55) by rw [hV]; (repeat' (first | (refine heap_alloc_at _ _ _ ?_; (first | rfl | (simp; done) | (simp; omega))) | (refine heap_alloc_past _ _ _ _ ?_))); first | done | exact HM.out | exact HD.out)
      have XM := hid (show V.heap[w.heap.size]? = some (.cells #[.int .i64 m0, .int .i64 m1, .int .i64 m2, .int .i64 m3] 61) by rw [hV]; (repeat' (first | (refine heap_alloc_at _ _ _ ?_; (first | rfl | (simp; done) | (simp; omega))) | (refine heap_alloc_past _ _ _ _ ?_))); first | done | exact HM.out | exact HD.out)
      have XD := hid (show V.heap[w.heap.size + 1]? = some (.cells #[.int .i64 0, .int .i64 0, .int .i64 0, .int .i64 0, .int .i64 0, .int .i64 0, .int .i64 0, .int .i64 0, .int .i64 0, .int .i64 0, .int .i64 0] 80) by rw [hV]; (repeat' (first | (refine heap_alloc_at _ _ _ ?_; (first | rfl | (simp; done) | (simp; omega))) | (refine heap_alloc_past _ _ _ _ ?_))); first | done | exact HM.out | exact HD.out)
      have XP := hid (show V.heap[wr.heap.size + 1]? = some (.cells #[.int .i64 0, .int .i64 0, .int .i64 0, .int .i64 0, .int .i64 0, .int .i64 0, .int .i64 (F k 5), .int .i64 (F k 6), .int .i64 (F k 7), .int .i64 (F k 8), .int .i64 (F k 9)] 80) by rw [hV]; (repeat' (first | (refine heap_alloc_at _ _ _ ?_; (first | rfl | (simp; done) | (simp; omega))) | (refine heap_alloc_past _ _ _ _ ?_))); first | done | exact HM.out | exact HD.out)
      have XW := hid (show Below w.heap.size w V by rw [hV]; have hB0 := HBwr.out; have hB1 := hB0.size; (repeat' (first | (with_reducible exact Below.refl _ _) | (with_reducible assumption) | (with_reducible refine Below.alloc ?_ ?_ _) | (with_reducible refine Below.drew ?_) | (with_reducible refine below_drewN ?_ _) | (with_reducible refine Below.setCell ?_ ?_ _) | (with_reducible refine below_setRow ?_ ?_ _) | go_size)))
      clear hV HM HD HBwr hb9
      generalize wr.heap.size = g8 at *
      generalize F (k + 1) = f at *
      generalize F k = a at *
      clear hk hkJ
      refine gen_act (fun A0 hA => ?_)
      refine wp_region_pl (by kernel_rfl) (by kernel_rfl) [some 75, some 76, some 77, some 78, some 79, some 80, some 81, some 82, some 12, some 13] rfl (by decide)
        [IsV (.int .i64 time), IsV (.pointer (some ⟨g8, 0, none⟩)), IsV (.int .i64 (a 0)), IsV (.int .i64 (time - a 0)), IsV (.pointer (some ⟨g8 + 1 + 1, 0, none⟩)), IsV (.int .i64 (f 0)), IsV (.int .i64 time), IsV (.int .i64 (f 0 - time)), IsV (.int .i64 (time - a 0)), IsV (.int .i64 (f 0 - time))]
        ⟨IsV.stb _, IsV.stb _, IsV.stb _, IsV.stb _, IsV.stb _, IsV.stb _, IsV.stb _, IsV.stb _, IsV.stb _, IsV.stb _, trivial⟩ ?hs1_14_V7 ?hend_14_V7
      case hs1_14_V7 =>
        refine ⟨?_, ?_, ?_, ?_, ?_, ?_, ?_, ?_, ?_, ?_, trivial⟩
        · intro K us W hK0 hB hd
          have hK := hid hK0; clear hK0
          have HBW := hid hB
          have hsW := hB.size
          have GB := hid (XW.out.trans (hB.mono XW.out.size))
          clear hd
          simp only [putF]
          rw [hA]
          go_frame
          go_wp2_with fail
          exact hK.out _ _ _ (by rw [hA]; simp only [putF]; kernel_rfl) (Below.refl _ _) rfl
        · intro K us W hK0 hB hd
          have hK := hid hK0; clear hK0
          have HBW := hid hB
          have hsW := hB.size
          have GB := hid (XW.out.trans (hB.mono XW.out.size))
          clear hd
          simp only [putF]
          rw [hA]
          go_frame
          go_wp2_with fail
          exact hK.out _ _ _ (by rw [hA]; simp only [putF]; kernel_rfl) (Below.refl _ _) rfl
        · intro K us W hK0 hB hd
          have hK := hid hK0; clear hK0
          have HBW := hid hB
          have hsW := hB.size
          have GB := hid (XW.out.trans (hB.mono XW.out.size))
          have e1 : us 1 = .pointer (some ⟨g8, 0, none⟩) := hd ⟨1, Ground.data⟩ (by simp) rfl
          clear hd
          have G0 := hid (heap_still hB XA.out)
          have c0 : W.cell? ⟨g8, 0, none⟩ = some (.int .i64 (a 0)) := (cell_row (j := 0) G0.out).trans rfl
          simp only [putF]
          rw [hA, e1]
          go_frame
          go_wp2_with fail
          exact hK.out _ _ _ (by rw [hA]; simp only [putF]; rw [e1]; kernel_rfl) (Below.refl _ _) rfl
        · intro K us W hK0 hB hd
          have hK := hid hK0; clear hK0
          have HBW := hid hB
          have hsW := hB.size
          have GB := hid (XW.out.trans (hB.mono XW.out.size))
          have e0 : us 0 = .int .i64 time := hd ⟨0, Ground.data⟩ (by simp) rfl
          have e2 : us 2 = .int .i64 (a 0) := hd ⟨2, Ground.data⟩ (by simp) rfl
          clear hd
          simp only [putF]
          rw [hA, e0, e2]
          go_frame
          go_wp2_with fail
          exact hK.out _ _ _ (by rw [hA]; simp only [putF]; rw [e0, e2]; kernel_rfl) (Below.refl _ _) rfl
        · intro K us W hK0 hB hd
          have hK := hid hK0; clear hK0
          have HBW := hid hB
          have hsW := hB.size
          have GB := hid (XW.out.trans (hB.mono XW.out.size))
          clear hd
          simp only [putF]
          rw [hA]
          go_frame
          go_wp2_with fail
          exact hK.out _ _ _ (by rw [hA]; simp only [putF]; kernel_rfl) (Below.refl _ _) rfl
        · intro K us W hK0 hB hd
          have hK := hid hK0; clear hK0
          have HBW := hid hB
          have hsW := hB.size
          have GB := hid (XW.out.trans (hB.mono XW.out.size))
          have e4 : us 4 = .pointer (some ⟨g8 + 1 + 1, 0, none⟩) := hd ⟨4, Ground.data⟩ (by simp) rfl
          clear hd
          have G0 := hid (heap_still hB XB.out)
          have c0 : W.cell? ⟨g8 + 1 + 1, 0, none⟩ = some (.int .i64 (f 0)) := (cell_row (j := 0) G0.out).trans rfl
          simp only [putF]
          rw [hA, e4]
          go_frame
          go_wp2_with fail
          exact hK.out _ _ _ (by rw [hA]; simp only [putF]; rw [e4]; kernel_rfl) (Below.refl _ _) rfl
        · intro K us W hK0 hB hd
          have hK := hid hK0; clear hK0
          have HBW := hid hB
          have hsW := hB.size
          have GB := hid (XW.out.trans (hB.mono XW.out.size))
          clear hd
          simp only [putF]
          rw [hA]
          go_frame
          go_wp2_with fail
          exact hK.out _ _ _ (by rw [hA]; simp only [putF]; kernel_rfl) (Below.refl _ _) rfl
        · intro K us W hK0 hB hd
          have hK := hid hK0; clear hK0
          have HBW := hid hB
          have hsW := hB.size
          have GB := hid (XW.out.trans (hB.mono XW.out.size))
          have e5 : us 5 = .int .i64 (f 0) := hd ⟨5, Ground.data⟩ (by simp) rfl
          have e6 : us 6 = .int .i64 time := hd ⟨6, Ground.data⟩ (by simp) rfl
          clear hd
          simp only [putF]
          rw [hA, e5, e6]
          go_frame
          go_wp2_with fail
          exact hK.out _ _ _ (by rw [hA]; simp only [putF]; rw [e5, e6]; kernel_rfl) (Below.refl _ _) rfl
        · intro K us W hK0 hB hd
          have hK := hid hK0; clear hK0
          have HBW := hid hB
          have hsW := hB.size
          have GB := hid (XW.out.trans (hB.mono XW.out.size))
          have e3 : us 3 = .int .i64 (time - a 0) := hd ⟨3, Ground.data⟩ (by simp) rfl
          clear hd
          simp only [putF]
          rw [hA, e3]
          go_frame
          go_wp2_with fail
          exact hK.out _ _ _ (by rw [hA]; simp only [putF]; rw [e3]; kernel_rfl) (Below.refl _ _) rfl
        · intro K us W hK0 hB hd
          have hK := hid hK0; clear hK0
          have HBW := hid hB
          have hsW := hB.size
          have GB := hid (XW.out.trans (hB.mono XW.out.size))
          have e7 : us 7 = .int .i64 (f 0 - time) := hd ⟨7, Ground.data⟩ (by simp) rfl
          clear hd
          simp only [putF]
          rw [hA, e7]
          go_frame
          go_wp2_with fail
          exact hK.out _ _ _ (by rw [hA]; simp only [putF]; rw [e7]; kernel_rfl) (Below.refl _ _) rfl
      intro us V7 hB hp
      have e8 : us 8 = .int .i64 (time - a 0) := hp 8 (by decide)
      have e9 : us 9 = .int .i64 (f 0 - time) := hp 9 (by decide)
      have HBV7 := hid (XW.out.trans (hB.mono XW.out.size))
      have HSV7 := hid (fun n x => @heap_still _ _ n x hB)
      have hzV7 := hB.size
      have hbV7 := hid hB
      clear hp
      clear hB
      simp only [putF]
      rw [hA, e8, e9]
      clear hA e8 e9
      go_frame
      have XA := hid (HSV7.out _ _ XA.out)
      have XB := hid (HSV7.out _ _ XB.out)
      have XM := hid (HSV7.out _ _ XM.out)
      have XD := hid (HSV7.out _ _ XD.out)
      have XP := hid (HSV7.out _ _ XP.out)
      have XW := HBV7
      clear HSV7 hzV7 hbV7 HBV7
      have hu0 : 0 < time - a 0 ∧ time - a 0 ≤ 10000000 := by omega
      have hv0 : 0 < f 0 - time ∧ f 0 - time ≤ 10000000 := by omega
      clear hfx hfy hfg
      generalize time - a 0 = u at *
      generalize f 0 - time = v at *
      have HW := hid (fun (z : Int) (hz : -4000000000000 ≤ z ∧ z ≤ 4000000000000) W => whole_any z W (by omega))
      have he0 : ((2000000000000 : Int) : Rat) ≠ 0 := fun h => by have := Rat.intCast_eq_zero_iff.1 h; omega
      have HE0 := hid he0
      have HCL := hid (bend_ceil m2 u v)
      have HBN := hid bn
      clear he0 bn
      have hm2b := HM2.out
      have cm2 : V7.cell? ⟨w.heap.size, 2, none⟩ = some (.int .i64 m2) := (cell_row (j := 2) XM.out).trans rfl
      have HBV7 := XW
      go_wp2_with fail
      refine (HW.out m2 (by omega) _).mono ?_
      rintro r w1 ⟨⟨v1, rfl, hq⟩, hb⟩
      have HBw1 := hid (show Below w.heap.size w w1 by have hB0 := HBV7.out; have hB1 := hB0.size; refine Below.trans ?_ (hb.mono ?_); (focus ((repeat' (first | (with_reducible exact Below.refl _ _) | (with_reducible assumption) | (with_reducible refine Below.alloc ?_ ?_ _) | (with_reducible refine Below.drew ?_) | (with_reducible refine below_drewN ?_ _) | (with_reducible refine Below.setCell ?_ ?_ _) | (with_reducible refine below_setRow ?_ ?_ _) | go_size)); done)); (focus (first | (simp; done) | (simp; omega) | (have hB1 := hB0.size; simp; omega))))
      have HQv1 := hid hq
      have hnw1 := hid hb
      clear hq hb
      clear cm2
      go_wp2_with fail
      refine (HW.out u (by omega) _).mono ?_
      rintro r w2 ⟨⟨v2, rfl, hq⟩, hb⟩
      have HBw2 := hid (show Below w.heap.size w w2 by have hB0 := HBw1.out; have hB1 := hB0.size; refine Below.trans ?_ (hb.mono ?_); (focus ((repeat' (first | (with_reducible exact Below.refl _ _) | (with_reducible assumption) | (with_reducible refine Below.alloc ?_ ?_ _) | (with_reducible refine Below.drew ?_) | (with_reducible refine below_drewN ?_ _) | (with_reducible refine Below.setCell ?_ ?_ _) | (with_reducible refine below_setRow ?_ ?_ _) | go_size)); done)); (focus (first | (simp; done) | (simp; omega) | (have hB1 := hB0.size; simp; omega))))
      have HQv2 := hid hq
      have hnw2 := hid hb
      clear hq hb
      have HQv1 := hid (HQv1.out.grow hnw2.out)
      go_wp2_with fail
      refine (qmul_any _ _ 4 _ _ _ HQv1.out HQv2.out (by decide)).mono ?_
      rintro r w3 ⟨⟨v3, rfl, hq⟩, hb⟩
      have HBw3 := hid (show Below w.heap.size w w3 by have hB0 := HBw2.out; have hB1 := hB0.size; refine Below.trans ?_ (hb.mono ?_); (focus ((repeat' (first | (with_reducible exact Below.refl _ _) | (with_reducible assumption) | (with_reducible refine Below.alloc ?_ ?_ _) | (with_reducible refine Below.drew ?_) | (with_reducible refine below_drewN ?_ _) | (with_reducible refine Below.setCell ?_ ?_ _) | (with_reducible refine below_setRow ?_ ?_ _) | go_size)); done)); (focus (first | (simp; done) | (simp; omega) | (have hB1 := hB0.size; simp; omega))))
      have HQv3 := hid hq
      have hnw3 := hid hb
      clear hq hb
      go_wp2_with fail
      refine (HW.out v (by omega) _).mono ?_
      rintro r w4 ⟨⟨v4, rfl, hq⟩, hb⟩
      have HBw4 := hid (show Below w.heap.size w w4 by have hB0 := HBw3.out; have hB1 := hB0.size; refine Below.trans ?_ (hb.mono ?_); (focus ((repeat' (first | (with_reducible exact Below.refl _ _) | (with_reducible assumption) | (with_reducible refine Below.alloc ?_ ?_ _) | (with_reducible refine Below.drew ?_) | (with_reducible refine below_drewN ?_ _) | (with_reducible refine Below.setCell ?_ ?_ _) | (with_reducible refine below_setRow ?_ ?_ _) | go_size)); done)); (focus (first | (simp; done) | (simp; omega) | (have hB1 := hB0.size; simp; omega))))
      have HQv4 := hid hq
      have hnw4 := hid hb
      clear hq hb
      have HQv3 := hid (HQv3.out.grow hnw4.out)
      go_wp2_with fail
      refine (qmul_any _ _ 8 _ _ _ HQv3.out (HQv4.out.wide (by decide)) (by decide)).mono ?_
      rintro r w5 ⟨⟨v5, rfl, hq⟩, hb⟩
      have HBw5 := hid (show Below w.heap.size w w5 by have hB0 := HBw4.out; have hB1 := hB0.size; refine Below.trans ?_ (hb.mono ?_); (focus ((repeat' (first | (with_reducible exact Below.refl _ _) | (with_reducible assumption) | (with_reducible refine Below.alloc ?_ ?_ _) | (with_reducible refine Below.drew ?_) | (with_reducible refine below_drewN ?_ _) | (with_reducible refine Below.setCell ?_ ?_ _) | (with_reducible refine below_setRow ?_ ?_ _) | go_size)); done)); (focus (first | (simp; done) | (simp; omega) | (have hB1 := hB0.size; simp; omega))))
      have HQv5 := hid hq
      have hnw5 := hid hb
      clear hq hb
      go_wp2_with fail
      refine (HW.out 2000000000000 (by decide) _).mono ?_
      rintro r w6 ⟨⟨v6, rfl, hq⟩, hb⟩
      have HBw6 := hid (show Below w.heap.size w w6 by have hB0 := HBw5.out; have hB1 := hB0.size; refine Below.trans ?_ (hb.mono ?_); (focus ((repeat' (first | (with_reducible exact Below.refl _ _) | (with_reducible assumption) | (with_reducible refine Below.alloc ?_ ?_ _) | (with_reducible refine Below.drew ?_) | (with_reducible refine below_drewN ?_ _) | (with_reducible refine Below.setCell ?_ ?_ _) | (with_reducible refine below_setRow ?_ ?_ _) | go_size)); done)); (focus (first | (simp; done) | (simp; omega) | (have hB1 := hB0.size; simp; omega))))
      have HQv6 := hid hq
      have hnw6 := hid hb
      clear hq hb
      have HQv5 := hid (HQv5.out.grow hnw6.out)
      go_wp2_with fail
      refine (qdiv_any _ _ 16 _ _ _ HQv5.out (HQv6.out.wide (by decide)) (by decide) HE0.out).mono ?_
      rintro r w7 ⟨⟨v7, rfl, hq⟩, hb⟩
      have HBw7 := hid (show Below w.heap.size w w7 by have hB0 := HBw6.out; have hB1 := hB0.size; refine Below.trans ?_ (hb.mono ?_); (focus ((repeat' (first | (with_reducible exact Below.refl _ _) | (with_reducible assumption) | (with_reducible refine Below.alloc ?_ ?_ _) | (with_reducible refine Below.drew ?_) | (with_reducible refine below_drewN ?_ _) | (with_reducible refine Below.setCell ?_ ?_ _) | (with_reducible refine below_setRow ?_ ?_ _) | go_size)); done)); (focus (first | (simp; done) | (simp; omega) | (have hB1 := hB0.size; simp; omega))))
      have HQv7 := hid hq
      have hnw7 := hid hb
      clear hq hb
      go_wp2_with fail
      refine (qceil_any _ 32 _ _ HQv7.out (by decide)).mono ?_
      rintro r w8 ⟨⟨v8, rfl, hi⟩, hb⟩
      rw [HCL.out] at hi
      have HBw8 := hid (HBw7.out.trans (hb.mono HBw7.out.size))
      have HI := hid hi
      have hnw8 := hid hb
      clear hb hi
      go_wp2_with fail
      refine (fits_any _ _ _ _ HI.out (by have := HBN.out; omega)).mono ?_
      rintro r w9 ⟨rfl, hb⟩
      have HBw9 := hid (HBw8.out.trans (hb.mono HBw8.out.size))
      have hnw9 := hid hb
      clear hb
      have hbn := HBN.out
      generalize -(-(m2 * u * v) / 2000000000000) = n at *
      have HALL := hid (fun i x (h : V7.heap[i]? = some x) => heap_still hnw9.out (heap_still hnw8.out (heap_still hnw7.out (heap_still hnw6.out (heap_still hnw5.out (heap_still hnw4.out (heap_still hnw3.out (heap_still hnw2.out (heap_still hnw1.out h)))))))))
      clear hnw1 hnw2 hnw3 hnw4 hnw5 hnw6 hnw7 hnw8 hnw9 HQv1 HQv2 HQv3 HQv4 HQv5 HQv6 HQv7 HI HCL HBw1 HBw2 HBw3 HBw4 HBw5 HBw6 HBw7 HBw8 HE0 HW HBN
      have XA := hid (HALL.out _ _ XA.out)
      have XB := hid (HALL.out _ _ XB.out)
      have XM := hid (HALL.out _ _ XM.out)
      have XD := hid (HALL.out _ _ XD.out)
      have XP := hid (HALL.out _ _ XP.out)
      have XW := HBw9
      clear HALL HBw9
      go_wp2_with fail
      go_loopw [99] (fun i W => ∃ k : Nat, k ≤ 3 ∧ i = .int .i64 k ∧ Below w.heap.size w W ∧ W.heap[g8]? = some (.cells #[.int .i64 (a 0), .int .i64 (a 1), .int .i64 (a 2), .int .i64 (a 3), .int .i64 (a 4), .int .i64 (a 5), .int .i64 (a 6), .int .i64 (a 7), .int .i64 (a 8), .int .i64 (a 9)] 55) ∧ W.heap[g8 + 1 + 1]? = some (.cells #[.int .i64 (f 0), .int .i64 (f 1), .int .i64 (f 2), .int .i64 (f 3), .int .i64 (f 4), .int .i64 (f 5), .int .i64 (f 6), .int .i64 (f 7), .int .i64 (f 8), .int .i64 (f 9)] 55) ∧ W.heap[w.heap.size]? = some (.cells #[.int .i64 m0, .int .i64 m1, .int .i64 m2, .int .i64 m3] 61) ∧ W.heap[w.heap.size + 1]? = some (.cells #[.int .i64 0, .int .i64 0, .int .i64 0, .int .i64 0, .int .i64 0, .int .i64 0, .int .i64 0, .int .i64 0, .int .i64 0, .int .i64 0, .int .i64 0] 80) ∧ W.heap[g8 + 1]? = some (.cells #[.int .i64 (poseC l h n k 0), .int .i64 (poseC l h n k 1), .int .i64 (poseC l h n k 2), .int .i64 (poseC l h n k 3), .int .i64 (poseC l h n k 4), .int .i64 (poseC l h n k 5), .int .i64 (a 5), .int .i64 (a 6), .int .i64 (a 7), .int .i64 (a 8), .int .i64 (a 9)] 80)) (fun i _ => 3 - (intOf i).toNat)
      case atStart => exact ⟨0, by decide, rfl, XW.out, XA.out, XB.out, XM.out, XD.out, XP.out⟩
      case round =>
        obtain ⟨k, hk, rfl, hB, hA1, hB1, hM1, hD1, hP1⟩ := hrel
        have XW := hid hB
        have XA := hid hA1
        have XB := hid hB1
        have XM := hid hM1
        have XD := hid hD1
        have XP := hid hP1
        clear hB hA1 hB1 hM1 hD1 hP1
        by_cases hk3 : k < 3
        · have HAB := hid (hab k hk3)
          have HLB := hid (hlb k hk3)
          have hd3 : decide ((k : Int) < 3) = true := decide_eq_true (by omega)
          refine gen_world (fun VR hV => ?_)
          have YA := hid (show VR.heap[g8]? = some (.cells #[.int .i64 (a 0), .int .i64 (a 1), .int .i64 (a 2), .int .i64 (a 3), .int .i64 (a 4), .int .i64 (a 5), .int .i64 (a 6), .int .i64 (a 7), .int .i64 (a 8), .int .i64 (a 9)] 55) by rw [hV]; exact XA.out)
          have YB := hid (show VR.heap[g8 + 1 + 1]? = some (.cells #[.int .i64 (f 0), .int .i64 (f 1), .int .i64 (f 2), .int .i64 (f 3), .int .i64 (f 4), .int .i64 (f 5), .int .i64 (f 6), .int .i64 (f 7), .int .i64 (f 8), .int .i64 (f 9)] 55) by rw [hV]; exact XB.out)
          have YM := hid (show VR.heap[w.heap.size]? = some (.cells #[.int .i64 m0, .int .i64 m1, .int .i64 m2, .int .i64 m3] 61) by rw [hV]; exact XM.out)
          have YD := hid (show VR.heap[w.heap.size + 1]? = some (.cells #[.int .i64 0, .int .i64 0, .int .i64 0, .int .i64 0, .int .i64 0, .int .i64 0, .int .i64 0, .int .i64 0, .int .i64 0, .int .i64 0, .int .i64 0] 80) by rw [hV]; exact XD.out)
          have YP := hid (show VR.heap[g8 + 1]? = some (.cells #[.int .i64 (poseC l h n k 0), .int .i64 (poseC l h n k 1), .int .i64 (poseC l h n k 2), .int .i64 (poseC l h n k 3), .int .i64 (poseC l h n k 4), .int .i64 (poseC l h n k 5), .int .i64 (a 5), .int .i64 (a 6), .int .i64 (a 7), .int .i64 (a 8), .int .i64 (a 9)] 80) by rw [hV]; exact XP.out)
          have YW := hid (show Below w.heap.size w VR by rw [hV]; exact XW.out)
          clear hV XA XB XM XD XP XW
          go_wp2_with fail
          refine gen_act (fun A0 hA => ?_)
          refine wp_region_tail (by kernel_rfl) (by kernel_rfl) [some 102, some 103, some 104, some 105, some 106, some 107, some 108, some 109, some 110, some 111, some 112, some 113, some 114, some 115, some 116, some 117, some 118, some 119, some 120, some 121, some 122, some 123, some 124, none] rfl (by decide) 21 (by decide) (by kernel_rfl) (by kernel_rfl)
            [IsV (.int .i64 (k : Int)), IsV (.int .i64 (k : Int)), IsV (.pointer (some ⟨g8, 1, none⟩)), IsV (.pointer (some ⟨g8, 1 + k, none⟩)), IsV (.int .i64 (a (k + 1))), IsV (.pointer (some ⟨g8, 4, none⟩)), IsV (.int .i64 (a 4)), IsV (.int .i64 (a (k + 1) - a 4)), IsV (.int .i64 v), IsV (.int .i64 (k : Int)), IsV (.pointer (some ⟨g8 + 1 + 1, 1, none⟩)), IsV (.pointer (some ⟨g8 + 1 + 1, 1 + k, none⟩)), IsV (.int .i64 (f (k + 1))), IsV (.pointer (some ⟨g8 + 1 + 1, 4, none⟩)), IsV (.int .i64 (f 4)), IsV (.int .i64 (f (k + 1) - f 4)), IsV (.int .i64 u), IsV (.int .i64 (l k)), IsV (.int .i64 n), IsV (.int .i64 (l k - n)), IsV (.pointer (some ⟨g8 + 1, 0, none⟩))]
            ⟨IsV.stb _, IsV.stb _, IsV.stb _, IsV.stb _, IsV.stb _, IsV.stb _, IsV.stb _, IsV.stb _, IsV.stb _, IsV.stb _, IsV.stb _, IsV.stb _, IsV.stb _, IsV.stb _, IsV.stb _, IsV.stb _, IsV.stb _, IsV.stb _, IsV.stb _, IsV.stb _, IsV.stb _, trivial⟩ ?hs1_19_UR ?hend_19_UR
          case hs1_19_UR =>
            refine ⟨?_, ?_, ?_, ?_, ?_, ?_, ?_, ?_, ?_, ?_, ?_, ?_, ?_, ?_, ?_, ?_, ?_, ?_, ?_, ?_, ?_, trivial⟩
            · intro K us W hK0 hB hd
              have hK := hid hK0; clear hK0
              have HBW := hid hB
              have hsW := hB.size
              have GB := hid (YW.out.trans (hB.mono YW.out.size))
              clear hd
              go_light
              simp only [putF]
              rw [hA]
              go_frame
              go_wp2_with fail
              exact hK.out _ _ _ (by rw [hA]; simp only [putF]; kernel_rfl) (Below.refl _ _) rfl
            · intro K us W hK0 hB hd
              have hK := hid hK0; clear hK0
              have HBW := hid hB
              have hsW := hB.size
              have GB := hid (YW.out.trans (hB.mono YW.out.size))
              clear hd
              go_light
              simp only [putF]
              rw [hA]
              go_frame
              go_wp2_with fail
              exact hK.out _ _ _ (by rw [hA]; simp only [putF]; kernel_rfl) (Below.refl _ _) rfl
            · intro K us W hK0 hB hd
              have hK := hid hK0; clear hK0
              have HBW := hid hB
              have hsW := hB.size
              have GB := hid (YW.out.trans (hB.mono YW.out.size))
              clear hd
              go_light
              simp only [putF]
              rw [hA]
              go_frame
              go_wp2_with fail
              exact hK.out _ _ _ (by rw [hA]; simp only [putF]; kernel_rfl) (Below.refl _ _) rfl
            · intro K us W hK0 hB hd
              have hK := hid hK0; clear hK0
              have HBW := hid hB
              have hsW := hB.size
              have GB := hid (YW.out.trans (hB.mono YW.out.size))
              have e2 : us 2 = .pointer (some ⟨g8, 1, none⟩) := hd ⟨2, Ground.data⟩ (by simp) rfl
              have e1 : us 1 = .int .i64 (k : Int) := hd ⟨1, Ground.data⟩ (by simp) rfl
              clear hd
              go_light
              simp only [putF]
              rw [hA, e2, e1]
              go_frame
              go_wp2_with fail
              exact hK.out _ _ _ (by rw [hA]; simp only [putF]; rw [e2, e1]; kernel_rfl) (Below.refl _ _) rfl
            · intro K us W hK0 hB hd
              have hK := hid hK0; clear hK0
              have HBW := hid hB
              have hsW := hB.size
              have GB := hid (YW.out.trans (hB.mono YW.out.size))
              have e3 : us 3 = .pointer (some ⟨g8, 1 + k, none⟩) := hd ⟨3, Ground.data⟩ (by simp) rfl
              clear hd
              go_light
              have c0 : W.cell? ⟨g8, 1 + k, none⟩ = some (.int .i64 (a (k + 1))) := (cell_row (j := 1 + k) (heap_still hB YA.out)).trans (mid_cell a k hk3)
              simp only [putF]
              rw [hA, e3]
              go_frame
              go_wp2_with fail
              exact hK.out _ _ _ (by rw [hA]; simp only [putF]; rw [e3]; kernel_rfl) (Below.refl _ _) rfl
            · intro K us W hK0 hB hd
              have hK := hid hK0; clear hK0
              have HBW := hid hB
              have hsW := hB.size
              have GB := hid (YW.out.trans (hB.mono YW.out.size))
              clear hd
              go_light
              simp only [putF]
              rw [hA]
              go_frame
              go_wp2_with fail
              exact hK.out _ _ _ (by rw [hA]; simp only [putF]; kernel_rfl) (Below.refl _ _) rfl
            · intro K us W hK0 hB hd
              have hK := hid hK0; clear hK0
              have HBW := hid hB
              have hsW := hB.size
              have GB := hid (YW.out.trans (hB.mono YW.out.size))
              have e5 : us 5 = .pointer (some ⟨g8, 4, none⟩) := hd ⟨5, Ground.data⟩ (by simp) rfl
              clear hd
              go_light
              have G0 := hid (heap_still hB YA.out)
              have c0 : W.cell? ⟨g8, 4, none⟩ = some (.int .i64 (a 4)) := (cell_row (j := 4) G0.out).trans rfl
              simp only [putF]
              rw [hA, e5]
              go_frame
              go_wp2_with fail
              exact hK.out _ _ _ (by rw [hA]; simp only [putF]; rw [e5]; kernel_rfl) (Below.refl _ _) rfl
            · intro K us W hK0 hB hd
              have hK := hid hK0; clear hK0
              have HBW := hid hB
              have hsW := hB.size
              have GB := hid (YW.out.trans (hB.mono YW.out.size))
              have e4 : us 4 = .int .i64 (a (k + 1)) := hd ⟨4, Ground.data⟩ (by simp) rfl
              have e6 : us 6 = .int .i64 (a 4) := hd ⟨6, Ground.data⟩ (by simp) rfl
              clear hd
              go_light
              have hbk := HAB.out
              simp only [putF]
              rw [hA, e4, e6]
              go_frame
              go_wp2_with fail
              exact hK.out _ _ _ (by rw [hA]; simp only [putF]; rw [e4, e6]; kernel_rfl) (Below.refl _ _) rfl
            · intro K us W hK0 hB hd
              have hK := hid hK0; clear hK0
              have HBW := hid hB
              have hsW := hB.size
              have GB := hid (YW.out.trans (hB.mono YW.out.size))
              clear hd
              go_light
              simp only [putF]
              rw [hA]
              go_frame
              go_wp2_with fail
              exact hK.out _ _ _ (by rw [hA]; simp only [putF]; kernel_rfl) (Below.refl _ _) rfl
            · intro K us W hK0 hB hd
              have hK := hid hK0; clear hK0
              have HBW := hid hB
              have hsW := hB.size
              have GB := hid (YW.out.trans (hB.mono YW.out.size))
              clear hd
              go_light
              simp only [putF]
              rw [hA]
              go_frame
              go_wp2_with fail
              exact hK.out _ _ _ (by rw [hA]; simp only [putF]; kernel_rfl) (Below.refl _ _) rfl
            · intro K us W hK0 hB hd
              have hK := hid hK0; clear hK0
              have HBW := hid hB
              have hsW := hB.size
              have GB := hid (YW.out.trans (hB.mono YW.out.size))
              clear hd
              go_light
              simp only [putF]
              rw [hA]
              go_frame
              go_wp2_with fail
              exact hK.out _ _ _ (by rw [hA]; simp only [putF]; kernel_rfl) (Below.refl _ _) rfl
            · intro K us W hK0 hB hd
              have hK := hid hK0; clear hK0
              have HBW := hid hB
              have hsW := hB.size
              have GB := hid (YW.out.trans (hB.mono YW.out.size))
              have e10 : us 10 = .pointer (some ⟨g8 + 1 + 1, 1, none⟩) := hd ⟨10, Ground.data⟩ (by simp) rfl
              have e9 : us 9 = .int .i64 (k : Int) := hd ⟨9, Ground.data⟩ (by simp) rfl
              clear hd
              go_light
              simp only [putF]
              rw [hA, e10, e9]
              go_frame
              go_wp2_with fail
              exact hK.out _ _ _ (by rw [hA]; simp only [putF]; rw [e10, e9]; kernel_rfl) (Below.refl _ _) rfl
            · intro K us W hK0 hB hd
              have hK := hid hK0; clear hK0
              have HBW := hid hB
              have hsW := hB.size
              have GB := hid (YW.out.trans (hB.mono YW.out.size))
              have e11 : us 11 = .pointer (some ⟨g8 + 1 + 1, 1 + k, none⟩) := hd ⟨11, Ground.data⟩ (by simp) rfl
              clear hd
              go_light
              have c0 : W.cell? ⟨g8 + 1 + 1, 1 + k, none⟩ = some (.int .i64 (f (k + 1))) := (cell_row (j := 1 + k) (heap_still hB YB.out)).trans (mid_cell f k hk3)
              simp only [putF]
              rw [hA, e11]
              go_frame
              go_wp2_with fail
              exact hK.out _ _ _ (by rw [hA]; simp only [putF]; rw [e11]; kernel_rfl) (Below.refl _ _) rfl
            · intro K us W hK0 hB hd
              have hK := hid hK0; clear hK0
              have HBW := hid hB
              have hsW := hB.size
              have GB := hid (YW.out.trans (hB.mono YW.out.size))
              clear hd
              go_light
              simp only [putF]
              rw [hA]
              go_frame
              go_wp2_with fail
              exact hK.out _ _ _ (by rw [hA]; simp only [putF]; kernel_rfl) (Below.refl _ _) rfl
            · intro K us W hK0 hB hd
              have hK := hid hK0; clear hK0
              have HBW := hid hB
              have hsW := hB.size
              have GB := hid (YW.out.trans (hB.mono YW.out.size))
              have e13 : us 13 = .pointer (some ⟨g8 + 1 + 1, 4, none⟩) := hd ⟨13, Ground.data⟩ (by simp) rfl
              clear hd
              go_light
              have G0 := hid (heap_still hB YB.out)
              have c0 : W.cell? ⟨g8 + 1 + 1, 4, none⟩ = some (.int .i64 (f 4)) := (cell_row (j := 4) G0.out).trans rfl
              simp only [putF]
              rw [hA, e13]
              go_frame
              go_wp2_with fail
              exact hK.out _ _ _ (by rw [hA]; simp only [putF]; rw [e13]; kernel_rfl) (Below.refl _ _) rfl
            · intro K us W hK0 hB hd
              have hK := hid hK0; clear hK0
              have HBW := hid hB
              have hsW := hB.size
              have GB := hid (YW.out.trans (hB.mono YW.out.size))
              have e12 : us 12 = .int .i64 (f (k + 1)) := hd ⟨12, Ground.data⟩ (by simp) rfl
              have e14 : us 14 = .int .i64 (f 4) := hd ⟨14, Ground.data⟩ (by simp) rfl
              clear hd
              go_light
              have hbk := HAB.out
              simp only [putF]
              rw [hA, e12, e14]
              go_frame
              go_wp2_with fail
              exact hK.out _ _ _ (by rw [hA]; simp only [putF]; rw [e12, e14]; kernel_rfl) (Below.refl _ _) rfl
            · intro K us W hK0 hB hd
              have hK := hid hK0; clear hK0
              have HBW := hid hB
              have hsW := hB.size
              have GB := hid (YW.out.trans (hB.mono YW.out.size))
              clear hd
              go_light
              simp only [putF]
              rw [hA]
              go_frame
              go_wp2_with fail
              exact hK.out _ _ _ (by rw [hA]; simp only [putF]; kernel_rfl) (Below.refl _ _) rfl
            · intro K us W hK0 hB hd
              have hK := hid hK0; clear hK0
              have HBW := hid hB
              have hsW := hB.size
              have GB := hid (YW.out.trans (hB.mono YW.out.size))
              have e7 : us 7 = .int .i64 (a (k + 1) - a 4) := hd ⟨7, Ground.data⟩ (by simp) rfl
              have e8 : us 8 = .int .i64 v := hd ⟨8, Ground.data⟩ (by simp) rfl
              have e15 : us 15 = .int .i64 (f (k + 1) - f 4) := hd ⟨15, Ground.data⟩ (by simp) rfl
              have e16 : us 16 = .int .i64 u := hd ⟨16, Ground.data⟩ (by simp) rfl
              clear hd
              go_light
              simp only [putF]
              rw [hA, e7, e8, e15, e16]
              go_frame
              go_wp2_with fail
              refine (HL.out k hk3 W).mono ?_
              rintro r W' ⟨rfl, hb⟩
              go_wp2_with fail
              exact hK.out _ _ _ (by rw [hA]; simp only [putF]; rw [e7, e8, e15, e16]; kernel_rfl) hb rfl
            · intro K us W hK0 hB hd
              have hK := hid hK0; clear hK0
              have HBW := hid hB
              have hsW := hB.size
              have GB := hid (YW.out.trans (hB.mono YW.out.size))
              clear hd
              go_light
              simp only [putF]
              rw [hA]
              go_frame
              go_wp2_with fail
              exact hK.out _ _ _ (by rw [hA]; simp only [putF]; kernel_rfl) (Below.refl _ _) rfl
            · intro K us W hK0 hB hd
              have hK := hid hK0; clear hK0
              have HBW := hid hB
              have hsW := hB.size
              have GB := hid (YW.out.trans (hB.mono YW.out.size))
              have e17 : us 17 = .int .i64 (l k) := hd ⟨17, Ground.data⟩ (by simp) rfl
              have e18 : us 18 = .int .i64 n := hd ⟨18, Ground.data⟩ (by simp) rfl
              clear hd
              go_light
              have hbk := HLB.out
              simp only [putF]
              rw [hA, e17, e18]
              go_frame
              go_wp2_with fail
              exact hK.out _ _ _ (by rw [hA]; simp only [putF]; rw [e17, e18]; kernel_rfl) (Below.refl _ _) rfl
            · intro K us W hK0 hB hd
              have hK := hid hK0; clear hK0
              have HBW := hid hB
              have hsW := hB.size
              have GB := hid (YW.out.trans (hB.mono YW.out.size))
              clear hd
              go_light
              simp only [putF]
              rw [hA]
              go_frame
              go_wp2_with fail
              exact hK.out _ _ _ (by rw [hA]; simp only [putF]; kernel_rfl) (Below.refl _ _) rfl
          intro us UR hB hp
          have e0 : us 0 = .int .i64 (k : Int) := hp 0 (by decide)
          have e19 : us 19 = .int .i64 (l k - n) := hp 19 (by decide)
          have e20 : us 20 = .pointer (some ⟨g8 + 1, 0, none⟩) := hp 20 (by decide)
          have HBUR := hid (YW.out.trans (hB.mono YW.out.size))
          have HSUR := hid (fun n x => @heap_still _ _ n x hB)
          have hzUR := hB.size
          have hbUR := hid hB
          clear hp
          clear hB
          simp only [putF]
          rw [hA, e0, e19, e20]
          clear hA e0 e19 e20
          go_frame
          refine tl_step rfl ?_
          intro K hK0
          have hK := hid hK0
          clear hK0
          go_wp2_with fail
          refine hK.out (.pointer (some ⟨g8 + 1, k * 2, none⟩)) _ _ (by kernel_rfl) ?_
          clear hK
          refine tl_step rfl ?_
          intro K hK0
          have hK := hid hK0
          clear hK0
          (try go_frame)
          go_wp2_with fail
          refine hK.out (.pointer (some ⟨g8 + 1, k * 2, none⟩)) _ _ (by kernel_rfl) ?_
          clear hK
          refine tl_step rfl ?_
          intro K hK0
          have hK := hid hK0
          clear hK0
          (try go_frame)
          go_wp2_with (refine pt_store1 rfl 3 (.tmp 124) (.tmp 121) rfl (g8 + 1) (k * 2) _ rfl rfl rfl rfl (HSUR.out _ _ YP.out) size3 (by show _ ≤ 11; omega) ?_)
          refine hK.out undef _ _ (by kernel_rfl) ?_
          clear hK
          refine tl_end rfl ?_
          (try go_frame)
          have XP := hid ((setRow_heap _ _ _ (ptL #[.int .i64 (poseC l h n k 0), .int .i64 (poseC l h n k 1), .int .i64 (poseC l h n k 2), .int .i64 (poseC l h n k 3), .int .i64 (poseC l h n k 4), .int .i64 (poseC l h n k 5), .int .i64 (a 5), .int .i64 (a 6), .int .i64 (a 7), .int .i64 (a 8), .int .i64 (a 9)] (k * 2) [.int .i64 (l k - n)]) _ _ (HSUR.out _ _ YP.out)).trans (by rw [pose_low l h n k a hk3]))
          have XA := hid (setRow_past (cells := (ptL #[.int .i64 (poseC l h n k 0), .int .i64 (poseC l h n k 1), .int .i64 (poseC l h n k 2), .int .i64 (poseC l h n k 3), .int .i64 (poseC l h n k 4), .int .i64 (poseC l h n k 5), .int .i64 (a 5), .int .i64 (a 6), .int .i64 (a 7), .int .i64 (a 8), .int .i64 (a 9)] (k * 2) [.int .i64 (l k - n)])) (HSUR.out _ _ YA.out) (by omega : g8 ≠ g8 + 1))
          have XB := hid (setRow_past (cells := (ptL #[.int .i64 (poseC l h n k 0), .int .i64 (poseC l h n k 1), .int .i64 (poseC l h n k 2), .int .i64 (poseC l h n k 3), .int .i64 (poseC l h n k 4), .int .i64 (poseC l h n k 5), .int .i64 (a 5), .int .i64 (a 6), .int .i64 (a 7), .int .i64 (a 8), .int .i64 (a 9)] (k * 2) [.int .i64 (l k - n)])) (HSUR.out _ _ YB.out) (by omega : g8 + 1 + 1 ≠ g8 + 1))
          have XM := hid (setRow_past (cells := (ptL #[.int .i64 (poseC l h n k 0), .int .i64 (poseC l h n k 1), .int .i64 (poseC l h n k 2), .int .i64 (poseC l h n k 3), .int .i64 (poseC l h n k 4), .int .i64 (poseC l h n k 5), .int .i64 (a 5), .int .i64 (a 6), .int .i64 (a 7), .int .i64 (a 8), .int .i64 (a 9)] (k * 2) [.int .i64 (l k - n)])) (HSUR.out _ _ YM.out) (by omega : w.heap.size ≠ g8 + 1))
          have XD := hid (setRow_past (cells := (ptL #[.int .i64 (poseC l h n k 0), .int .i64 (poseC l h n k 1), .int .i64 (poseC l h n k 2), .int .i64 (poseC l h n k 3), .int .i64 (poseC l h n k 4), .int .i64 (poseC l h n k 5), .int .i64 (a 5), .int .i64 (a 6), .int .i64 (a 7), .int .i64 (a 8), .int .i64 (a 9)] (k * 2) [.int .i64 (l k - n)])) (HSUR.out _ _ YD.out) (by omega : w.heap.size + 1 ≠ g8 + 1))
          have XW := hid (below_setRow HBUR.out (by omega : w.heap.size ≤ g8 + 1) (ptL #[.int .i64 (poseC l h n k 0), .int .i64 (poseC l h n k 1), .int .i64 (poseC l h n k 2), .int .i64 (poseC l h n k 3), .int .i64 (poseC l h n k 4), .int .i64 (poseC l h n k 5), .int .i64 (a 5), .int .i64 (a 6), .int .i64 (a 7), .int .i64 (a 8), .int .i64 (a 9)] (k * 2) [.int .i64 (l k - n)]))
          clear YA YB YM YD YP YW HBUR HSUR hbUR hzUR
          go_wp2_with fail
          refine gen_world (fun TR hV => ?_)
          have YA := hid (show TR.heap[g8]? = some (.cells #[.int .i64 (a 0), .int .i64 (a 1), .int .i64 (a 2), .int .i64 (a 3), .int .i64 (a 4), .int .i64 (a 5), .int .i64 (a 6), .int .i64 (a 7), .int .i64 (a 8), .int .i64 (a 9)] 55) by rw [hV]; exact XA.out)
          have YB := hid (show TR.heap[g8 + 1 + 1]? = some (.cells #[.int .i64 (f 0), .int .i64 (f 1), .int .i64 (f 2), .int .i64 (f 3), .int .i64 (f 4), .int .i64 (f 5), .int .i64 (f 6), .int .i64 (f 7), .int .i64 (f 8), .int .i64 (f 9)] 55) by rw [hV]; exact XB.out)
          have YM := hid (show TR.heap[w.heap.size]? = some (.cells #[.int .i64 m0, .int .i64 m1, .int .i64 m2, .int .i64 m3] 61) by rw [hV]; exact XM.out)
          have YD := hid (show TR.heap[w.heap.size + 1]? = some (.cells #[.int .i64 0, .int .i64 0, .int .i64 0, .int .i64 0, .int .i64 0, .int .i64 0, .int .i64 0, .int .i64 0, .int .i64 0, .int .i64 0, .int .i64 0] 80) by rw [hV]; exact XD.out)
          have YP := hid (show TR.heap[g8 + 1]? = some (.cells #[.int .i64 (poseD l h n k 0), .int .i64 (poseD l h n k 1), .int .i64 (poseD l h n k 2), .int .i64 (poseD l h n k 3), .int .i64 (poseD l h n k 4), .int .i64 (poseD l h n k 5), .int .i64 (a 5), .int .i64 (a 6), .int .i64 (a 7), .int .i64 (a 8), .int .i64 (a 9)] 80) by rw [hV]; exact XP.out)
          have YW := hid (show Below w.heap.size w TR by rw [hV]; exact XW.out)
          clear hV XA XB XM XD XP XW
          go_wp2_with fail
          refine gen_act (fun A0 hA => ?_)
          refine wp_region_tail (by kernel_rfl) (by kernel_rfl) [some 125, some 126, some 127, some 128, some 129, some 130, some 131, some 132, some 133, some 134, some 135, some 136, some 137, some 138, some 139, some 140, some 141, some 142, some 143, some 144, some 145, some 146, some 147, none] rfl (by decide) 21 (by decide) (by kernel_rfl) (by kernel_rfl)
            [IsV (.int .i64 (k : Int)), IsV (.int .i64 (k : Int)), IsV (.pointer (some ⟨g8, 1, none⟩)), IsV (.pointer (some ⟨g8, 1 + k, none⟩)), IsV (.int .i64 (a (k + 1))), IsV (.pointer (some ⟨g8, 4, none⟩)), IsV (.int .i64 (a 4)), IsV (.int .i64 (a (k + 1) + a 4)), IsV (.int .i64 v), IsV (.int .i64 (k : Int)), IsV (.pointer (some ⟨g8 + 1 + 1, 1, none⟩)), IsV (.pointer (some ⟨g8 + 1 + 1, 1 + k, none⟩)), IsV (.int .i64 (f (k + 1))), IsV (.pointer (some ⟨g8 + 1 + 1, 4, none⟩)), IsV (.int .i64 (f 4)), IsV (.int .i64 (f (k + 1) + f 4)), IsV (.int .i64 u), IsV (.int .i64 (h k)), IsV (.int .i64 n), IsV (.int .i64 (h k + n)), IsV (.pointer (some ⟨g8 + 1, 0, none⟩))]
            ⟨IsV.stb _, IsV.stb _, IsV.stb _, IsV.stb _, IsV.stb _, IsV.stb _, IsV.stb _, IsV.stb _, IsV.stb _, IsV.stb _, IsV.stb _, IsV.stb _, IsV.stb _, IsV.stb _, IsV.stb _, IsV.stb _, IsV.stb _, IsV.stb _, IsV.stb _, IsV.stb _, IsV.stb _, trivial⟩ ?hs1_20_SR ?hend_20_SR
          case hs1_20_SR =>
            refine ⟨?_, ?_, ?_, ?_, ?_, ?_, ?_, ?_, ?_, ?_, ?_, ?_, ?_, ?_, ?_, ?_, ?_, ?_, ?_, ?_, ?_, trivial⟩
            · intro K us W hK0 hB hd
              have hK := hid hK0; clear hK0
              have HBW := hid hB
              have hsW := hB.size
              have GB := hid (YW.out.trans (hB.mono YW.out.size))
              clear hd
              go_light
              simp only [putF]
              rw [hA]
              go_frame
              go_wp2_with fail
              exact hK.out _ _ _ (by rw [hA]; simp only [putF]; kernel_rfl) (Below.refl _ _) rfl
            · intro K us W hK0 hB hd
              have hK := hid hK0; clear hK0
              have HBW := hid hB
              have hsW := hB.size
              have GB := hid (YW.out.trans (hB.mono YW.out.size))
              clear hd
              go_light
              simp only [putF]
              rw [hA]
              go_frame
              go_wp2_with fail
              exact hK.out _ _ _ (by rw [hA]; simp only [putF]; kernel_rfl) (Below.refl _ _) rfl
            · intro K us W hK0 hB hd
              have hK := hid hK0; clear hK0
              have HBW := hid hB
              have hsW := hB.size
              have GB := hid (YW.out.trans (hB.mono YW.out.size))
              clear hd
              go_light
              simp only [putF]
              rw [hA]
              go_frame
              go_wp2_with fail
              exact hK.out _ _ _ (by rw [hA]; simp only [putF]; kernel_rfl) (Below.refl _ _) rfl
            · intro K us W hK0 hB hd
              have hK := hid hK0; clear hK0
              have HBW := hid hB
              have hsW := hB.size
              have GB := hid (YW.out.trans (hB.mono YW.out.size))
              have e2 : us 2 = .pointer (some ⟨g8, 1, none⟩) := hd ⟨2, Ground.data⟩ (by simp) rfl
              have e1 : us 1 = .int .i64 (k : Int) := hd ⟨1, Ground.data⟩ (by simp) rfl
              clear hd
              go_light
              simp only [putF]
              rw [hA, e2, e1]
              go_frame
              go_wp2_with fail
              exact hK.out _ _ _ (by rw [hA]; simp only [putF]; rw [e2, e1]; kernel_rfl) (Below.refl _ _) rfl
            · intro K us W hK0 hB hd
              have hK := hid hK0; clear hK0
              have HBW := hid hB
              have hsW := hB.size
              have GB := hid (YW.out.trans (hB.mono YW.out.size))
              have e3 : us 3 = .pointer (some ⟨g8, 1 + k, none⟩) := hd ⟨3, Ground.data⟩ (by simp) rfl
              clear hd
              go_light
              have c0 : W.cell? ⟨g8, 1 + k, none⟩ = some (.int .i64 (a (k + 1))) := (cell_row (j := 1 + k) (heap_still hB YA.out)).trans (mid_cell a k hk3)
              simp only [putF]
              rw [hA, e3]
              go_frame
              go_wp2_with fail
              exact hK.out _ _ _ (by rw [hA]; simp only [putF]; rw [e3]; kernel_rfl) (Below.refl _ _) rfl
            · intro K us W hK0 hB hd
              have hK := hid hK0; clear hK0
              have HBW := hid hB
              have hsW := hB.size
              have GB := hid (YW.out.trans (hB.mono YW.out.size))
              clear hd
              go_light
              simp only [putF]
              rw [hA]
              go_frame
              go_wp2_with fail
              exact hK.out _ _ _ (by rw [hA]; simp only [putF]; kernel_rfl) (Below.refl _ _) rfl
            · intro K us W hK0 hB hd
              have hK := hid hK0; clear hK0
              have HBW := hid hB
              have hsW := hB.size
              have GB := hid (YW.out.trans (hB.mono YW.out.size))
              have e5 : us 5 = .pointer (some ⟨g8, 4, none⟩) := hd ⟨5, Ground.data⟩ (by simp) rfl
              clear hd
              go_light
              have G0 := hid (heap_still hB YA.out)
              have c0 : W.cell? ⟨g8, 4, none⟩ = some (.int .i64 (a 4)) := (cell_row (j := 4) G0.out).trans rfl
              simp only [putF]
              rw [hA, e5]
              go_frame
              go_wp2_with fail
              exact hK.out _ _ _ (by rw [hA]; simp only [putF]; rw [e5]; kernel_rfl) (Below.refl _ _) rfl
            · intro K us W hK0 hB hd
              have hK := hid hK0; clear hK0
              have HBW := hid hB
              have hsW := hB.size
              have GB := hid (YW.out.trans (hB.mono YW.out.size))
              have e4 : us 4 = .int .i64 (a (k + 1)) := hd ⟨4, Ground.data⟩ (by simp) rfl
              have e6 : us 6 = .int .i64 (a 4) := hd ⟨6, Ground.data⟩ (by simp) rfl
              clear hd
              go_light
              have hbk := HAB.out
              simp only [putF]
              rw [hA, e4, e6]
              go_frame
              go_wp2_with fail
              exact hK.out _ _ _ (by rw [hA]; simp only [putF]; rw [e4, e6]; kernel_rfl) (Below.refl _ _) rfl
            · intro K us W hK0 hB hd
              have hK := hid hK0; clear hK0
              have HBW := hid hB
              have hsW := hB.size
              have GB := hid (YW.out.trans (hB.mono YW.out.size))
              clear hd
              go_light
              simp only [putF]
              rw [hA]
              go_frame
              go_wp2_with fail
              exact hK.out _ _ _ (by rw [hA]; simp only [putF]; kernel_rfl) (Below.refl _ _) rfl
            · intro K us W hK0 hB hd
              have hK := hid hK0; clear hK0
              have HBW := hid hB
              have hsW := hB.size
              have GB := hid (YW.out.trans (hB.mono YW.out.size))
              clear hd
              go_light
              simp only [putF]
              rw [hA]
              go_frame
              go_wp2_with fail
              exact hK.out _ _ _ (by rw [hA]; simp only [putF]; kernel_rfl) (Below.refl _ _) rfl
            · intro K us W hK0 hB hd
              have hK := hid hK0; clear hK0
              have HBW := hid hB
              have hsW := hB.size
              have GB := hid (YW.out.trans (hB.mono YW.out.size))
              clear hd
              go_light
              simp only [putF]
              rw [hA]
              go_frame
              go_wp2_with fail
              exact hK.out _ _ _ (by rw [hA]; simp only [putF]; kernel_rfl) (Below.refl _ _) rfl
            · intro K us W hK0 hB hd
              have hK := hid hK0; clear hK0
              have HBW := hid hB
              have hsW := hB.size
              have GB := hid (YW.out.trans (hB.mono YW.out.size))
              have e10 : us 10 = .pointer (some ⟨g8 + 1 + 1, 1, none⟩) := hd ⟨10, Ground.data⟩ (by simp) rfl
              have e9 : us 9 = .int .i64 (k : Int) := hd ⟨9, Ground.data⟩ (by simp) rfl
              clear hd
              go_light
              simp only [putF]
              rw [hA, e10, e9]
              go_frame
              go_wp2_with fail
              exact hK.out _ _ _ (by rw [hA]; simp only [putF]; rw [e10, e9]; kernel_rfl) (Below.refl _ _) rfl
            · intro K us W hK0 hB hd
              have hK := hid hK0; clear hK0
              have HBW := hid hB
              have hsW := hB.size
              have GB := hid (YW.out.trans (hB.mono YW.out.size))
              have e11 : us 11 = .pointer (some ⟨g8 + 1 + 1, 1 + k, none⟩) := hd ⟨11, Ground.data⟩ (by simp) rfl
              clear hd
              go_light
              have c0 : W.cell? ⟨g8 + 1 + 1, 1 + k, none⟩ = some (.int .i64 (f (k + 1))) := (cell_row (j := 1 + k) (heap_still hB YB.out)).trans (mid_cell f k hk3)
              simp only [putF]
              rw [hA, e11]
              go_frame
              go_wp2_with fail
              exact hK.out _ _ _ (by rw [hA]; simp only [putF]; rw [e11]; kernel_rfl) (Below.refl _ _) rfl
            · intro K us W hK0 hB hd
              have hK := hid hK0; clear hK0
              have HBW := hid hB
              have hsW := hB.size
              have GB := hid (YW.out.trans (hB.mono YW.out.size))
              clear hd
              go_light
              simp only [putF]
              rw [hA]
              go_frame
              go_wp2_with fail
              exact hK.out _ _ _ (by rw [hA]; simp only [putF]; kernel_rfl) (Below.refl _ _) rfl
            · intro K us W hK0 hB hd
              have hK := hid hK0; clear hK0
              have HBW := hid hB
              have hsW := hB.size
              have GB := hid (YW.out.trans (hB.mono YW.out.size))
              have e13 : us 13 = .pointer (some ⟨g8 + 1 + 1, 4, none⟩) := hd ⟨13, Ground.data⟩ (by simp) rfl
              clear hd
              go_light
              have G0 := hid (heap_still hB YB.out)
              have c0 : W.cell? ⟨g8 + 1 + 1, 4, none⟩ = some (.int .i64 (f 4)) := (cell_row (j := 4) G0.out).trans rfl
              simp only [putF]
              rw [hA, e13]
              go_frame
              go_wp2_with fail
              exact hK.out _ _ _ (by rw [hA]; simp only [putF]; rw [e13]; kernel_rfl) (Below.refl _ _) rfl
            · intro K us W hK0 hB hd
              have hK := hid hK0; clear hK0
              have HBW := hid hB
              have hsW := hB.size
              have GB := hid (YW.out.trans (hB.mono YW.out.size))
              have e12 : us 12 = .int .i64 (f (k + 1)) := hd ⟨12, Ground.data⟩ (by simp) rfl
              have e14 : us 14 = .int .i64 (f 4) := hd ⟨14, Ground.data⟩ (by simp) rfl
              clear hd
              go_light
              have hbk := HAB.out
              simp only [putF]
              rw [hA, e12, e14]
              go_frame
              go_wp2_with fail
              exact hK.out _ _ _ (by rw [hA]; simp only [putF]; rw [e12, e14]; kernel_rfl) (Below.refl _ _) rfl
            · intro K us W hK0 hB hd
              have hK := hid hK0; clear hK0
              have HBW := hid hB
              have hsW := hB.size
              have GB := hid (YW.out.trans (hB.mono YW.out.size))
              clear hd
              go_light
              simp only [putF]
              rw [hA]
              go_frame
              go_wp2_with fail
              exact hK.out _ _ _ (by rw [hA]; simp only [putF]; kernel_rfl) (Below.refl _ _) rfl
            · intro K us W hK0 hB hd
              have hK := hid hK0; clear hK0
              have HBW := hid hB
              have hsW := hB.size
              have GB := hid (YW.out.trans (hB.mono YW.out.size))
              have e7 : us 7 = .int .i64 (a (k + 1) + a 4) := hd ⟨7, Ground.data⟩ (by simp) rfl
              have e8 : us 8 = .int .i64 v := hd ⟨8, Ground.data⟩ (by simp) rfl
              have e15 : us 15 = .int .i64 (f (k + 1) + f 4) := hd ⟨15, Ground.data⟩ (by simp) rfl
              have e16 : us 16 = .int .i64 u := hd ⟨16, Ground.data⟩ (by simp) rfl
              clear hd
              go_light
              simp only [putF]
              rw [hA, e7, e8, e15, e16]
              go_frame
              go_wp2_with fail
              refine (HH.out k hk3 W).mono ?_
              rintro r W' ⟨rfl, hb⟩
              go_wp2_with fail
              exact hK.out _ _ _ (by rw [hA]; simp only [putF]; rw [e7, e8, e15, e16]; kernel_rfl) hb rfl
            · intro K us W hK0 hB hd
              have hK := hid hK0; clear hK0
              have HBW := hid hB
              have hsW := hB.size
              have GB := hid (YW.out.trans (hB.mono YW.out.size))
              clear hd
              go_light
              simp only [putF]
              rw [hA]
              go_frame
              go_wp2_with fail
              exact hK.out _ _ _ (by rw [hA]; simp only [putF]; kernel_rfl) (Below.refl _ _) rfl
            · intro K us W hK0 hB hd
              have hK := hid hK0; clear hK0
              have HBW := hid hB
              have hsW := hB.size
              have GB := hid (YW.out.trans (hB.mono YW.out.size))
              have e17 : us 17 = .int .i64 (h k) := hd ⟨17, Ground.data⟩ (by simp) rfl
              have e18 : us 18 = .int .i64 n := hd ⟨18, Ground.data⟩ (by simp) rfl
              clear hd
              go_light
              have hbk := HLB.out
              simp only [putF]
              rw [hA, e17, e18]
              go_frame
              go_wp2_with fail
              exact hK.out _ _ _ (by rw [hA]; simp only [putF]; rw [e17, e18]; kernel_rfl) (Below.refl _ _) rfl
            · intro K us W hK0 hB hd
              have hK := hid hK0; clear hK0
              have HBW := hid hB
              have hsW := hB.size
              have GB := hid (YW.out.trans (hB.mono YW.out.size))
              clear hd
              go_light
              simp only [putF]
              rw [hA]
              go_frame
              go_wp2_with fail
              exact hK.out _ _ _ (by rw [hA]; simp only [putF]; kernel_rfl) (Below.refl _ _) rfl
          intro us SR hB hp
          have e0 : us 0 = .int .i64 (k : Int) := hp 0 (by decide)
          have e19 : us 19 = .int .i64 (h k + n) := hp 19 (by decide)
          have e20 : us 20 = .pointer (some ⟨g8 + 1, 0, none⟩) := hp 20 (by decide)
          have HBSR := hid (YW.out.trans (hB.mono YW.out.size))
          have HSSR := hid (fun n x => @heap_still _ _ n x hB)
          have hzSR := hB.size
          have hbSR := hid hB
          clear hp
          clear hB
          simp only [putF]
          rw [hA, e0, e19, e20]
          clear hA e0 e19 e20
          go_frame
          refine tl_step rfl ?_
          intro K hK0
          have hK := hid hK0
          clear hK0
          go_wp2_with fail
          refine hK.out (.pointer (some ⟨g8 + 1, k * 2, none⟩)) _ _ (by kernel_rfl) ?_
          clear hK
          refine tl_step rfl ?_
          intro K hK0
          have hK := hid hK0
          clear hK0
          (try go_frame)
          go_wp2_with fail
          refine hK.out (.pointer (some ⟨g8 + 1, k * 2 + 1, none⟩)) _ _ (by kernel_rfl) ?_
          clear hK
          refine tl_step rfl ?_
          intro K hK0
          have hK := hid hK0
          clear hK0
          (try go_frame)
          go_wp2_with (refine pt_store1 rfl 3 (.tmp 147) (.tmp 144) rfl (g8 + 1) (k * 2 + 1) _ rfl rfl rfl rfl (HSSR.out _ _ YP.out) size3 (by show _ ≤ 11; omega) ?_)
          refine hK.out undef _ _ (by kernel_rfl) ?_
          clear hK
          refine tl_end rfl ?_
          (try go_frame)
          have XP := hid ((setRow_heap _ _ _ (ptL #[.int .i64 (poseD l h n k 0), .int .i64 (poseD l h n k 1), .int .i64 (poseD l h n k 2), .int .i64 (poseD l h n k 3), .int .i64 (poseD l h n k 4), .int .i64 (poseD l h n k 5), .int .i64 (a 5), .int .i64 (a 6), .int .i64 (a 7), .int .i64 (a 8), .int .i64 (a 9)] (k * 2 + 1) [.int .i64 (h k + n)]) _ _ (HSSR.out _ _ YP.out)).trans (by rw [pose_high l h n k a hk3]))
          have XA := hid (setRow_past (cells := (ptL #[.int .i64 (poseD l h n k 0), .int .i64 (poseD l h n k 1), .int .i64 (poseD l h n k 2), .int .i64 (poseD l h n k 3), .int .i64 (poseD l h n k 4), .int .i64 (poseD l h n k 5), .int .i64 (a 5), .int .i64 (a 6), .int .i64 (a 7), .int .i64 (a 8), .int .i64 (a 9)] (k * 2 + 1) [.int .i64 (h k + n)])) (HSSR.out _ _ YA.out) (by omega : g8 ≠ g8 + 1))
          have XB := hid (setRow_past (cells := (ptL #[.int .i64 (poseD l h n k 0), .int .i64 (poseD l h n k 1), .int .i64 (poseD l h n k 2), .int .i64 (poseD l h n k 3), .int .i64 (poseD l h n k 4), .int .i64 (poseD l h n k 5), .int .i64 (a 5), .int .i64 (a 6), .int .i64 (a 7), .int .i64 (a 8), .int .i64 (a 9)] (k * 2 + 1) [.int .i64 (h k + n)])) (HSSR.out _ _ YB.out) (by omega : g8 + 1 + 1 ≠ g8 + 1))
          have XM := hid (setRow_past (cells := (ptL #[.int .i64 (poseD l h n k 0), .int .i64 (poseD l h n k 1), .int .i64 (poseD l h n k 2), .int .i64 (poseD l h n k 3), .int .i64 (poseD l h n k 4), .int .i64 (poseD l h n k 5), .int .i64 (a 5), .int .i64 (a 6), .int .i64 (a 7), .int .i64 (a 8), .int .i64 (a 9)] (k * 2 + 1) [.int .i64 (h k + n)])) (HSSR.out _ _ YM.out) (by omega : w.heap.size ≠ g8 + 1))
          have XD := hid (setRow_past (cells := (ptL #[.int .i64 (poseD l h n k 0), .int .i64 (poseD l h n k 1), .int .i64 (poseD l h n k 2), .int .i64 (poseD l h n k 3), .int .i64 (poseD l h n k 4), .int .i64 (poseD l h n k 5), .int .i64 (a 5), .int .i64 (a 6), .int .i64 (a 7), .int .i64 (a 8), .int .i64 (a 9)] (k * 2 + 1) [.int .i64 (h k + n)])) (HSSR.out _ _ YD.out) (by omega : w.heap.size + 1 ≠ g8 + 1))
          have XW := hid (below_setRow HBSR.out (by omega : w.heap.size ≤ g8 + 1) (ptL #[.int .i64 (poseD l h n k 0), .int .i64 (poseD l h n k 1), .int .i64 (poseD l h n k 2), .int .i64 (poseD l h n k 3), .int .i64 (poseD l h n k 4), .int .i64 (poseD l h n k 5), .int .i64 (a 5), .int .i64 (a 6), .int .i64 (a 7), .int .i64 (a 8), .int .i64 (a 9)] (k * 2 + 1) [.int .i64 (h k + n)]))
          clear YA YB YM YD YP YW HBSR HSSR hbSR hzSR
          go_wp2_with fail
          go_roundw
          case rel => exact ⟨k + 1, by omega, by go_num, XW.out, XA.out, XB.out, XM.out, XD.out, XP.out⟩
          case measure => simp [intOf]; omega
        · obtain rfl : k = 3 := by omega
          have XP := hid (show wr.heap[g8 + 1]? = some (.cells #[.int .i64 (l 0 - n), .int .i64 (h 0 + n), .int .i64 (l 1 - n), .int .i64 (h 1 + n), .int .i64 (l 2 - n), .int .i64 (h 2 + n), .int .i64 (a 5), .int .i64 (a 6), .int .i64 (a 7), .int .i64 (a 8), .int .i64 (a 9)] 80) from XP.out)
          have HUPF := hid (fun (z : Int) (hz : 0 ≤ z ∧ z ≤ 10000000) => show ∃ gd : Int, gd = upV m3 z 1000000 ∧ (0 ≤ gd ∧ gd ≤ 100000001) ∧ ∀ W, Calls Try.prog 98 #[.int .i64 m3, .int .i64 z, .int .i64 1000000] W fun r w' => r = .returned (.int .i64 gd) ∧ Below W.heap.size W w' from by
            have h1 := mul_in (x := m3) (y := z) (l := 10000000) (m := 10000000) (by have := HM3.out; omega) hz
            have h2 : 0 ≤ m3 * z := Int.mul_nonneg HM3.out.1 hz.1
            have h3 : 0 ≤ upV m3 z 1000000 ∧ upV m3 z 1000000 ≤ 100000001 := by unfold upV; omega
            exact ⟨_, rfl, h3, fun W => up_any m3 z 1000000 W (by have := HM3.out; omega) (by omega) (by decide) (by omega)⟩)
          by_cases hgt : v < u
          · obtain ⟨gd, egd, bgd, cgd⟩ := HUPF.out (min u v) (by omega)
            have HUP := hid cgd
            have HRES2 := hid (show res = poseA (l 0 - n) (h 0 + n) (l 1 - n) (h 1 + n) (l 2 - n) (h 2 + n) (f 5) (f 6) (f 7) (f 8) (f 9 + gd) by rw [HRES.out]; simp only [if_pos hgt]; rw [egd, show min u v = v by omega])
            have HGT := hid hgt
            have hd1 : decide (v < u) = true := decide_eq_true hgt
            clear HRES egd cgd HUPF
            go_wp2_with fail
            clear hgt hd1
            refine gen_world (fun V8 hV => ?_)
            have YA := hid (show V8.heap[g8]? = some (.cells #[.int .i64 (a 0), .int .i64 (a 1), .int .i64 (a 2), .int .i64 (a 3), .int .i64 (a 4), .int .i64 (a 5), .int .i64 (a 6), .int .i64 (a 7), .int .i64 (a 8), .int .i64 (a 9)] 55) by rw [hV]; exact XA.out)
            have YB := hid (show V8.heap[g8 + 1 + 1]? = some (.cells #[.int .i64 (f 0), .int .i64 (f 1), .int .i64 (f 2), .int .i64 (f 3), .int .i64 (f 4), .int .i64 (f 5), .int .i64 (f 6), .int .i64 (f 7), .int .i64 (f 8), .int .i64 (f 9)] 55) by rw [hV]; exact XB.out)
            have YM := hid (show V8.heap[w.heap.size]? = some (.cells #[.int .i64 m0, .int .i64 m1, .int .i64 m2, .int .i64 m3] 61) by rw [hV]; exact XM.out)
            have YD := hid (show V8.heap[w.heap.size + 1]? = some (.cells #[.int .i64 0, .int .i64 0, .int .i64 0, .int .i64 0, .int .i64 0, .int .i64 0, .int .i64 0, .int .i64 0, .int .i64 0, .int .i64 0, .int .i64 0] 80) by rw [hV]; exact XD.out)
            have YP := hid (show V8.heap[g8 + 1]? = some (.cells #[.int .i64 (l 0 - n), .int .i64 (h 0 + n), .int .i64 (l 1 - n), .int .i64 (h 1 + n), .int .i64 (l 2 - n), .int .i64 (h 2 + n), .int .i64 (a 5), .int .i64 (a 6), .int .i64 (a 7), .int .i64 (a 8), .int .i64 (a 9)] 80) by rw [hV]; exact XP.out)
            have YW := hid (show Below w.heap.size w V8 by rw [hV]; exact XW.out)
            clear hV XA XB XM XD XP XW
            refine gen_act (fun A0 hA => ?_)
            have Z0 := hid (show V8.drew.heap[g8 + 1 + 1]? = some (.cells #[.int .i64 (f 0), .int .i64 (f 1), .int .i64 (f 2), .int .i64 (f 3), .int .i64 (f 4), .int .i64 (f 5), .int .i64 (f 6), .int .i64 (f 7), .int .i64 (f 8), .int .i64 (f 9)] 55) from YB.out)
            have Z1 := hid (setRow_past (cells := #[.int .i64 (l 0 - n), .int .i64 (h 0 + n), .int .i64 (l 1 - n), .int .i64 (h 1 + n), .int .i64 (l 2 - n), .int .i64 (h 2 + n), .int .i64 (f 5), .int .i64 (f 6), .int .i64 (f 7), .int .i64 (f 8), .int .i64 (a 9)]) Z0.out (by omega : g8 + 1 + 1 ≠ g8 + 1))
            have Z2 := hid (setRow_past (cells := #[.int .i64 (l 0 - n), .int .i64 (h 0 + n), .int .i64 (l 1 - n), .int .i64 (h 1 + n), .int .i64 (l 2 - n), .int .i64 (h 2 + n), .int .i64 (f 5), .int .i64 (f 6), .int .i64 (f 7), .int .i64 (f 8), .int .i64 (f 9)]) Z1.out (by omega : g8 + 1 + 1 ≠ g8 + 1))
            have P0 := hid (show V8.drew.heap[g8 + 1]? = some (.cells #[.int .i64 (l 0 - n), .int .i64 (h 0 + n), .int .i64 (l 1 - n), .int .i64 (h 1 + n), .int .i64 (l 2 - n), .int .i64 (h 2 + n), .int .i64 (a 5), .int .i64 (a 6), .int .i64 (a 7), .int .i64 (a 8), .int .i64 (a 9)] 80) from YP.out)
            have P1 := hid (setRow_heap _ _ _ #[.int .i64 (l 0 - n), .int .i64 (h 0 + n), .int .i64 (l 1 - n), .int .i64 (h 1 + n), .int .i64 (l 2 - n), .int .i64 (h 2 + n), .int .i64 (f 5), .int .i64 (f 6), .int .i64 (f 7), .int .i64 (f 8), .int .i64 (a 9)] _ _ P0.out)
            refine wp_region_by (by kernel_rfl) (by kernel_rfl) [some 152, some 153, some 154, some 155, some 156, none, some 157, none] rfl (by decide) (TwoS V8.drew (V8.drew.setRow (g8 + 1) #[.int .i64 (l 0 - n), .int .i64 (h 0 + n), .int .i64 (l 1 - n), .int .i64 (h 1 + n), .int .i64 (l 2 - n), .int .i64 (h 2 + n), .int .i64 (f 5), .int .i64 (f 6), .int .i64 (f 7), .int .i64 (f 8), .int .i64 (a 9)]) ((V8.drew.setRow (g8 + 1) #[.int .i64 (l 0 - n), .int .i64 (h 0 + n), .int .i64 (l 1 - n), .int .i64 (h 1 + n), .int .i64 (l 2 - n), .int .i64 (h 2 + n), .int .i64 (f 5), .int .i64 (f 6), .int .i64 (f 7), .int .i64 (f 8), .int .i64 (a 9)]).setRow (g8 + 1) #[.int .i64 (l 0 - n), .int .i64 (h 0 + n), .int .i64 (l 1 - n), .int .i64 (h 1 + n), .int .i64 (l 2 - n), .int .i64 (h 2 + n), .int .i64 (f 5), .int .i64 (f 6), .int .i64 (f 7), .int .i64 (f 8), .int .i64 (f 9)]) [.pointer (some ⟨g8 + 1 + 1, 5, none⟩), .agg #[.int .i64 (f 5), .int .i64 (f 6), .int .i64 (f 7), .int .i64 (f 8)], .pointer (some ⟨g8 + 1 + 1, 9, none⟩), .int .i64 (f 9), .pointer (some ⟨g8 + 1, 6, none⟩), undef, .pointer (some ⟨g8 + 1, 10, none⟩), undef]) (selfF A0 _) (putF_self A0 _) TwoS.start ?hs23 ?hend23
            case hs23 =>
              refine ⟨?_, ?_, ?_, ?_, ?_, ?_, ?_, ?_, trivial⟩
              · intro K L us W hK0 hL hd hR
                have hK := hid (fun v A' h1 h2 => hK0 v A' W h1 (hR.pure 0 (by decide) (by decide) h2)); clear hK0 hd hR
                simp only [putF]
                rw [hA]
                go_frame
                go_wp2_with fail
                exact hK.out _ _ (by rw [hA]; simp only [putF]; kernel_rfl) rfl
              · intro K L us W hK0 hL hd hR
                have hK := hid (fun v A' h1 h2 => hK0 v A' W h1 (hR.pure 1 (by decide) (by decide) h2)); clear hK0
                simp [Region.binds] at hd
                have e0 : us 0 = .pointer (some ⟨g8 + 1 + 1, 5, none⟩) := hR.vals 0 (by simp_all) (by decide) (by decide)
                have HC := hid (hR.cell Z0.out Z1.out Z2.out)
                clear hd hR
                simp only [putF]
                rw [hA, e0]
                go_frame
                go_wp2_with (refine pt_load rfl 22 (.tmp 152) rfl (g8 + 1 + 1) 5 rfl [.int .i64 (f 5), .int .i64 (f 6), .int .i64 (f 7), .int .i64 (f 8)] HC.out rfl Try.underlying22 rfl size22 ?_)
                exact hK.out _ _ (by rw [hA]; simp only [putF]; rw [e0]; kernel_rfl) rfl
              · intro K L us W hK0 hL hd hR
                have hK := hid (fun v A' h1 h2 => hK0 v A' W h1 (hR.pure 2 (by decide) (by decide) h2)); clear hK0 hd hR
                simp only [putF]
                rw [hA]
                go_frame
                go_wp2_with fail
                exact hK.out _ _ (by rw [hA]; simp only [putF]; kernel_rfl) rfl
              · intro K L us W hK0 hL hd hR
                have hK := hid (fun v A' h1 h2 => hK0 v A' W h1 (hR.pure 3 (by decide) (by decide) h2)); clear hK0
                simp [Region.binds] at hd
                have e0 : us 2 = .pointer (some ⟨g8 + 1 + 1, 9, none⟩) := hR.vals 2 (by simp_all) (by decide) (by decide)
                have HC := hid (hR.cell Z0.out Z1.out Z2.out)
                have c9 : W.cell? ⟨g8 + 1 + 1, 9, none⟩ = some (.int .i64 (f 9)) := (cell_row (j := 9) HC.out).trans rfl
                clear hd hR
                simp only [putF]
                rw [hA, e0]
                go_frame
                go_wp2_with fail
                exact hK.out _ _ (by rw [hA]; simp only [putF]; rw [e0]; kernel_rfl) rfl
              · intro K L us W hK0 hL hd hR
                have hK := hid (fun v A' h1 h2 => hK0 v A' W h1 (hR.pure 4 (by decide) (by decide) h2)); clear hK0 hd hR
                simp only [putF]
                rw [hA]
                go_frame
                go_wp2_with fail
                exact hK.out _ _ (by rw [hA]; simp only [putF]; kernel_rfl) rfl
              · intro K L us W hK0 hL hd hR
                simp [Region.binds] at hd
                have e0 : us 4 = .pointer (some ⟨g8 + 1, 6, none⟩) := hR.vals 4 (by simp_all) (by decide) (by decide)
                have e1 : us 1 = .agg #[.int .i64 (f 5), .int .i64 (f 6), .int .i64 (f 7), .int .i64 (f 8)] := hR.vals 1 (by simp_all) (by decide) (by decide)
                have hW := (hR.fst (v := undef) hL).1
                have hK := hid (fun A' h1 => hK0 undef A' _ h1 (hR.fst hL).2); clear hK0
                clear hd hR
                subst hW
                simp only [putF]
                rw [hA, e0, e1]
                go_frame
                go_wp2_with (refine pt_store rfl 22 (.tmp 156) (.tmp 153) rfl _ _ _ rfl rfl P0.out size22 rfl (of_decide_eq_true rfl) rfl ?_)
                exact hK.out _ (by rw [hA]; simp only [putF]; rw [e0, e1]; kernel_rfl)
              · intro K L us W hK0 hL hd hR
                have hK := hid (fun v A' h1 h2 => hK0 v A' W h1 (hR.pure 6 (by decide) (by decide) h2)); clear hK0 hd hR
                simp only [putF]
                rw [hA]
                go_frame
                go_wp2_with fail
                exact hK.out _ _ (by rw [hA]; simp only [putF]; kernel_rfl) rfl
              · intro K L us W hK0 hL hd hR
                simp [Region.binds] at hd
                have e0 : us 6 = .pointer (some ⟨g8 + 1, 10, none⟩) := hR.vals 6 (by simp_all) (by decide) (by decide)
                have e1 : us 3 = .int .i64 (f 9) := hR.vals 3 (by simp_all) (by decide) (by decide)
                have h5 : L 5 = true := by simp_all
                have hW := (hR.snd (v := undef) h5 hL).1
                have hK := hid (fun A' h1 => hK0 undef A' _ h1 (hR.snd h5 hL).2); clear hK0
                clear hd hR
                subst hW
                simp only [putF]
                rw [hA, e0, e1]
                go_frame
                go_wp2_with (refine pt_store1 rfl 3 (.tmp 157) (.tmp 155) rfl (g8 + 1) 10 _ rfl rfl rfl rfl P1.out size3 (of_decide_eq_true rfl) ?_)
                exact hK.out _ (by rw [hA]; simp only [putF]; rw [e0, e1]; kernel_rfl)
            intro L us W hL hR
            have e0 := hR.vals 0 (hL 0 (by decide)) (by decide) (by decide)
            have e1 := hR.vals 1 (hL 1 (by decide)) (by decide) (by decide)
            have e2 := hR.vals 2 (hL 2 (by decide)) (by decide) (by decide)
            have e3 := hR.vals 3 (hL 3 (by decide)) (by decide) (by decide)
            have e4 := hR.vals 4 (hL 4 (by decide)) (by decide) (by decide)
            have e6 := hR.vals 6 (hL 6 (by decide)) (by decide) (by decide)
            have hW : W = (V8.drew.setRow (g8 + 1) #[.int .i64 (l 0 - n), .int .i64 (h 0 + n), .int .i64 (l 1 - n), .int .i64 (h 1 + n), .int .i64 (l 2 - n), .int .i64 (h 2 + n), .int .i64 (f 5), .int .i64 (f 6), .int .i64 (f 7), .int .i64 (f 8), .int .i64 (a 9)]).setRow (g8 + 1) #[.int .i64 (l 0 - n), .int .i64 (h 0 + n), .int .i64 (l 1 - n), .int .i64 (h 1 + n), .int .i64 (l 2 - n), .int .i64 (h 2 + n), .int .i64 (f 5), .int .i64 (f 6), .int .i64 (f 7), .int .i64 (f 8), .int .i64 (f 9)] := by have := hR.wld; rw [hL 7 (by decide)] at this; exact this
            clear hR hL
            simp only [List.getD_cons_zero, List.getD_cons_succ] at e0 e1 e2 e3 e4 e6
            simp only [putF]
            rw [hA, e0, e1, e2, e3, e4, e6]
            clear hA e0 e1 e2 e3 e4 e6
            go_frame
            subst hW
            have XP := hid (setRow_heap _ _ _ #[.int .i64 (l 0 - n), .int .i64 (h 0 + n), .int .i64 (l 1 - n), .int .i64 (h 1 + n), .int .i64 (l 2 - n), .int .i64 (h 2 + n), .int .i64 (f 5), .int .i64 (f 6), .int .i64 (f 7), .int .i64 (f 8), .int .i64 (f 9)] _ _ P1.out)
            have XB := Z2
            have XA := hid (setRow_past (cells := #[.int .i64 (l 0 - n), .int .i64 (h 0 + n), .int .i64 (l 1 - n), .int .i64 (h 1 + n), .int .i64 (l 2 - n), .int .i64 (h 2 + n), .int .i64 (f 5), .int .i64 (f 6), .int .i64 (f 7), .int .i64 (f 8), .int .i64 (f 9)]) (setRow_past (cells := #[.int .i64 (l 0 - n), .int .i64 (h 0 + n), .int .i64 (l 1 - n), .int .i64 (h 1 + n), .int .i64 (l 2 - n), .int .i64 (h 2 + n), .int .i64 (f 5), .int .i64 (f 6), .int .i64 (f 7), .int .i64 (f 8), .int .i64 (a 9)]) (show V8.drew.heap[g8]? = _ from YA.out) (by omega : g8 ≠ g8 + 1)) (by omega : g8 ≠ g8 + 1))
            have XM := hid (setRow_past (cells := #[.int .i64 (l 0 - n), .int .i64 (h 0 + n), .int .i64 (l 1 - n), .int .i64 (h 1 + n), .int .i64 (l 2 - n), .int .i64 (h 2 + n), .int .i64 (f 5), .int .i64 (f 6), .int .i64 (f 7), .int .i64 (f 8), .int .i64 (f 9)]) (setRow_past (cells := #[.int .i64 (l 0 - n), .int .i64 (h 0 + n), .int .i64 (l 1 - n), .int .i64 (h 1 + n), .int .i64 (l 2 - n), .int .i64 (h 2 + n), .int .i64 (f 5), .int .i64 (f 6), .int .i64 (f 7), .int .i64 (f 8), .int .i64 (a 9)]) (show V8.drew.heap[w.heap.size]? = _ from YM.out) (by omega : w.heap.size ≠ g8 + 1)) (by omega : w.heap.size ≠ g8 + 1))
            have XD := hid (setRow_past (cells := #[.int .i64 (l 0 - n), .int .i64 (h 0 + n), .int .i64 (l 1 - n), .int .i64 (h 1 + n), .int .i64 (l 2 - n), .int .i64 (h 2 + n), .int .i64 (f 5), .int .i64 (f 6), .int .i64 (f 7), .int .i64 (f 8), .int .i64 (f 9)]) (setRow_past (cells := #[.int .i64 (l 0 - n), .int .i64 (h 0 + n), .int .i64 (l 1 - n), .int .i64 (h 1 + n), .int .i64 (l 2 - n), .int .i64 (h 2 + n), .int .i64 (f 5), .int .i64 (f 6), .int .i64 (f 7), .int .i64 (f 8), .int .i64 (a 9)]) (show V8.drew.heap[w.heap.size + 1]? = _ from YD.out) (by omega : w.heap.size + 1 ≠ g8 + 1)) (by omega : w.heap.size + 1 ≠ g8 + 1))
            have XW := hid (below_setRow (below_setRow (YW.out.drew) (by omega : w.heap.size ≤ g8 + 1) #[.int .i64 (l 0 - n), .int .i64 (h 0 + n), .int .i64 (l 1 - n), .int .i64 (h 1 + n), .int .i64 (l 2 - n), .int .i64 (h 2 + n), .int .i64 (f 5), .int .i64 (f 6), .int .i64 (f 7), .int .i64 (f 8), .int .i64 (a 9)]) (by omega : w.heap.size ≤ g8 + 1) #[.int .i64 (l 0 - n), .int .i64 (h 0 + n), .int .i64 (l 1 - n), .int .i64 (h 1 + n), .int .i64 (l 2 - n), .int .i64 (h 2 + n), .int .i64 (f 5), .int .i64 (f 6), .int .i64 (f 7), .int .i64 (f 8), .int .i64 (f 9)])
            clear YA YB YM YD YP YW Z0 Z1 Z2 P0 P1
            go_wp2_with fail
            refine gen_world (fun V9 hV => ?_)
            have YA := hid (show V9.heap[g8]? = some (.cells #[.int .i64 (a 0), .int .i64 (a 1), .int .i64 (a 2), .int .i64 (a 3), .int .i64 (a 4), .int .i64 (a 5), .int .i64 (a 6), .int .i64 (a 7), .int .i64 (a 8), .int .i64 (a 9)] 55) by rw [hV]; exact XA.out)
            have YB := hid (show V9.heap[g8 + 1 + 1]? = some (.cells #[.int .i64 (f 0), .int .i64 (f 1), .int .i64 (f 2), .int .i64 (f 3), .int .i64 (f 4), .int .i64 (f 5), .int .i64 (f 6), .int .i64 (f 7), .int .i64 (f 8), .int .i64 (f 9)] 55) by rw [hV]; exact XB.out)
            have YM := hid (show V9.heap[w.heap.size]? = some (.cells #[.int .i64 m0, .int .i64 m1, .int .i64 m2, .int .i64 m3] 61) by rw [hV]; exact XM.out)
            have YD := hid (show V9.heap[w.heap.size + 1]? = some (.cells #[.int .i64 0, .int .i64 0, .int .i64 0, .int .i64 0, .int .i64 0, .int .i64 0, .int .i64 0, .int .i64 0, .int .i64 0, .int .i64 0, .int .i64 0] 80) by rw [hV]; exact XD.out)
            have YP := hid (show V9.heap[g8 + 1]? = some (.cells #[.int .i64 (l 0 - n), .int .i64 (h 0 + n), .int .i64 (l 1 - n), .int .i64 (h 1 + n), .int .i64 (l 2 - n), .int .i64 (h 2 + n), .int .i64 (f 5), .int .i64 (f 6), .int .i64 (f 7), .int .i64 (f 8), .int .i64 (f 9)] 80) by rw [hV]; exact XP.out)
            have YW := hid (show Below w.heap.size w V9 by rw [hV]; exact XW.out)
            clear hV XA XB XM XD XP XW
            go_wp2_with fail
            refine gen_act (fun A0 hA => ?_)
            refine wp_region_last (by kernel_rfl) (by kernel_rfl) [some 158, some 159, some 160, some 161, some 162, some 163, some 164, some 165, some 166, some 167, none] rfl (by decide) 10 rfl (by kernel_rfl) (by kernel_rfl)
              [IsV (.pointer (some ⟨g8 + 1, 10, none⟩)), IsV (.int .i64 (f 9)), IsV (.pointer (some ⟨w.heap.size, 3, none⟩)), IsV (.int .i64 m3), IsV (.int .i64 u), IsV (.int .i64 v), IsV (.int .i64 (min u v)), IsV (.int .i64 gd), IsV (.int .i64 (f 9 + gd)), IsV (.pointer (some ⟨g8 + 1, 10, none⟩))]
              ⟨IsV.stb _, IsV.stb _, IsV.stb _, IsV.stb _, IsV.stb _, IsV.stb _, IsV.stb _, IsV.stb _, IsV.stb _, IsV.stb _, trivial⟩ ?hs1_24_W9f ?hlast_24_W9f
            case hs1_24_W9f =>
              refine ⟨?_, ?_, ?_, ?_, ?_, ?_, ?_, ?_, ?_, ?_, trivial⟩
              · intro K us W hK0 hB hd
                have hK := hid hK0; clear hK0
                have HBW := hid hB
                have hsW := hB.size
                have GB := hid (YW.out.trans (hB.mono YW.out.size))
                clear hd
                go_light
                simp only [putF]
                rw [hA]
                go_frame
                go_wp2_with fail
                exact hK.out _ _ _ (by rw [hA]; simp only [putF]; kernel_rfl) (Below.refl _ _) rfl
              · intro K us W hK0 hB hd
                have hK := hid hK0; clear hK0
                have HBW := hid hB
                have hsW := hB.size
                have GB := hid (YW.out.trans (hB.mono YW.out.size))
                have e0 : us 0 = .pointer (some ⟨g8 + 1, 10, none⟩) := hd ⟨0, Ground.data⟩ (by simp) rfl
                clear hd
                go_light
                have G0 := hid (heap_still hB YP.out)
                have c0 : W.cell? ⟨g8 + 1, 10, none⟩ = some (.int .i64 (f 9)) := (cell_row (j := 10) G0.out).trans rfl
                simp only [putF]
                rw [hA, e0]
                go_frame
                go_wp2_with fail
                exact hK.out _ _ _ (by rw [hA]; simp only [putF]; rw [e0]; kernel_rfl) (Below.refl _ _) rfl
              · intro K us W hK0 hB hd
                have hK := hid hK0; clear hK0
                have HBW := hid hB
                have hsW := hB.size
                have GB := hid (YW.out.trans (hB.mono YW.out.size))
                clear hd
                go_light
                simp only [putF]
                rw [hA]
                go_frame
                go_wp2_with fail
                exact hK.out _ _ _ (by rw [hA]; simp only [putF]; kernel_rfl) (Below.refl _ _) rfl
              · intro K us W hK0 hB hd
                have hK := hid hK0; clear hK0
                have HBW := hid hB
                have hsW := hB.size
                have GB := hid (YW.out.trans (hB.mono YW.out.size))
                have e2 : us 2 = .pointer (some ⟨w.heap.size, 3, none⟩) := hd ⟨2, Ground.data⟩ (by simp) rfl
                clear hd
                go_light
                have G0 := hid (heap_still hB YM.out)
                have c0 : W.cell? ⟨w.heap.size, 3, none⟩ = some (.int .i64 m3) := (cell_row (j := 3) G0.out).trans rfl
                simp only [putF]
                rw [hA, e2]
                go_frame
                go_wp2_with fail
                exact hK.out _ _ _ (by rw [hA]; simp only [putF]; rw [e2]; kernel_rfl) (Below.refl _ _) rfl
              · intro K us W hK0 hB hd
                have hK := hid hK0; clear hK0
                have HBW := hid hB
                have hsW := hB.size
                have GB := hid (YW.out.trans (hB.mono YW.out.size))
                clear hd
                go_light
                simp only [putF]
                rw [hA]
                go_frame
                go_wp2_with fail
                exact hK.out _ _ _ (by rw [hA]; simp only [putF]; kernel_rfl) (Below.refl _ _) rfl
              · intro K us W hK0 hB hd
                have hK := hid hK0; clear hK0
                have HBW := hid hB
                have hsW := hB.size
                have GB := hid (YW.out.trans (hB.mono YW.out.size))
                clear hd
                go_light
                simp only [putF]
                rw [hA]
                go_frame
                go_wp2_with fail
                exact hK.out _ _ _ (by rw [hA]; simp only [putF]; kernel_rfl) (Below.refl _ _) rfl
              · intro K us W hK0 hB hd
                have hK := hid hK0; clear hK0
                have HBW := hid hB
                have hsW := hB.size
                have GB := hid (YW.out.trans (hB.mono YW.out.size))
                have e4 : us 4 = .int .i64 u := hd ⟨4, Ground.data⟩ (by simp) rfl
                have e5 : us 5 = .int .i64 v := hd ⟨5, Ground.data⟩ (by simp) rfl
                clear hd
                go_light
                simp only [putF]
                rw [hA, e4, e5]
                go_frame
                go_wp2_with fail
                exact hK.out _ _ _ (by rw [hA]; simp only [putF]; rw [e4, e5]; kernel_rfl) (Below.refl _ _) rfl
              · intro K us W hK0 hB hd
                have hK := hid hK0; clear hK0
                have HBW := hid hB
                have hsW := hB.size
                have GB := hid (YW.out.trans (hB.mono YW.out.size))
                have e3 : us 3 = .int .i64 m3 := hd ⟨3, Ground.data⟩ (by simp) rfl
                have e6 : us 6 = .int .i64 (min u v) := hd ⟨6, Ground.data⟩ (by simp) rfl
                clear hd
                go_light
                simp only [putF]
                rw [hA, e3, e6]
                go_frame
                go_wp2_with fail
                refine (HUP.out W).mono ?_
                rintro r W' ⟨rfl, hb⟩
                go_wp2_with fail
                exact hK.out _ _ _ (by rw [hA]; simp only [putF]; rw [e3, e6]; kernel_rfl) hb rfl
              · intro K us W hK0 hB hd
                have hK := hid hK0; clear hK0
                have HBW := hid hB
                have hsW := hB.size
                have GB := hid (YW.out.trans (hB.mono YW.out.size))
                have e1 : us 1 = .int .i64 (f 9) := hd ⟨1, Ground.data⟩ (by simp) rfl
                have e7 : us 7 = .int .i64 gd := hd ⟨7, Ground.data⟩ (by simp) rfl
                clear hd
                go_light
                simp only [putF]
                rw [hA, e1, e7]
                go_frame
                go_wp2_with fail
                exact hK.out _ _ _ (by rw [hA]; simp only [putF]; rw [e1, e7]; kernel_rfl) (Below.refl _ _) rfl
              · intro K us W hK0 hB hd
                have hK := hid hK0; clear hK0
                have HBW := hid hB
                have hsW := hB.size
                have GB := hid (YW.out.trans (hB.mono YW.out.size))
                clear hd
                go_light
                simp only [putF]
                rw [hA]
                go_frame
                go_wp2_with fail
                exact hK.out _ _ _ (by rw [hA]; simp only [putF]; kernel_rfl) (Below.refl _ _) rfl
            intro K us W9f hK0 hB hp
            have hK := hid hK0
            clear hK0
            have e9 : us 9 = .pointer (some ⟨g8 + 1, 10, none⟩) := hp 9 (by decide)
            have e8 : us 8 = .int .i64 (f 9 + gd) := hp 8 (by decide)
            have HBW9f := hid (YW.out.trans (hB.mono YW.out.size))
            have HSW9f := hid (fun n x => @heap_still _ _ n x hB)
            have hzW9f := hB.size
            have hbW9f := hid hB
            clear hp
            simp only [putF]
            rw [hA, e9, e8]
            skip
            go_frame
            go_wp2_with (refine pt_store1 rfl 3 (.tmp 167) (.tmp 166) rfl (g8 + 1) 10 _ rfl rfl rfl rfl (HSW9f.out _ _ YP.out) size3 (of_decide_eq_true rfl) ?_)
            refine hK.out undef _ _ (by rw [hA]; simp only [putF]; rw [e9, e8]; kernel_rfl) ?_
            clear hK hB hA e9 e8
            have ZP := hid (setRow_heap _ _ _ #[.int .i64 (l 0 - n), .int .i64 (h 0 + n), .int .i64 (l 1 - n), .int .i64 (h 1 + n), .int .i64 (l 2 - n), .int .i64 (h 2 + n), .int .i64 (f 5), .int .i64 (f 6), .int .i64 (f 7), .int .i64 (f 8), .int .i64 (f 9 + gd)] _ _ (HSW9f.out _ _ YP.out))
            have ZD := hid (setRow_past (cells := #[.int .i64 (l 0 - n), .int .i64 (h 0 + n), .int .i64 (l 1 - n), .int .i64 (h 1 + n), .int .i64 (l 2 - n), .int .i64 (h 2 + n), .int .i64 (f 5), .int .i64 (f 6), .int .i64 (f 7), .int .i64 (f 8), .int .i64 (f 9 + gd)]) (HSW9f.out _ _ YD.out) (by omega : w.heap.size + 1 ≠ g8 + 1))
            go_wp2_with (first | (refine wpList_load_at rfl 80 (.tmp 9) rfl rfl ZP.out Try.underlying80 rfl size80b rfl ?_) | (refine wpList_store_at rfl 80 (.tmp 6) (.tmp 168) rfl rfl rfl ZD.out size80b rfl rfl rfl ?_))
            refine bodyPost_ret (results_at1 rfl rfl (setRow_heap _ _ _ _ _ _ ZD.out) Try.underlying80 rfl size80b rfl) rfl ?_
            exact ⟨by rw [HRES2.out]; rfl, below_setRow (below_setRow HBW9f.out (by omega) _) (by omega) _⟩
          · obtain ⟨gd, egd, bgd, cgd⟩ := HUPF.out (min u v) (by omega)
            have HUP := hid cgd
            have HRES2 := hid (show res = poseA (l 0 - n) (h 0 + n) (l 1 - n) (h 1 + n) (l 2 - n) (h 2 + n) (a 5) (a 6) (a 7) (a 8) (a 9 + gd) by rw [HRES.out]; simp only [if_neg hgt]; rw [egd, show min u v = u by omega])
            have HGT := hid (show u ≤ v by omega)
            have hd1 : decide (v < u) = false := decide_eq_false hgt
            clear HRES egd cgd HUPF
            go_wp2_with fail
            clear hgt hd1
            refine gen_world (fun V9 hV => ?_)
            have YA := hid (show V9.heap[g8]? = some (.cells #[.int .i64 (a 0), .int .i64 (a 1), .int .i64 (a 2), .int .i64 (a 3), .int .i64 (a 4), .int .i64 (a 5), .int .i64 (a 6), .int .i64 (a 7), .int .i64 (a 8), .int .i64 (a 9)] 55) by rw [hV]; exact XA.out)
            have YB := hid (show V9.heap[g8 + 1 + 1]? = some (.cells #[.int .i64 (f 0), .int .i64 (f 1), .int .i64 (f 2), .int .i64 (f 3), .int .i64 (f 4), .int .i64 (f 5), .int .i64 (f 6), .int .i64 (f 7), .int .i64 (f 8), .int .i64 (f 9)] 55) by rw [hV]; exact XB.out)
            have YM := hid (show V9.heap[w.heap.size]? = some (.cells #[.int .i64 m0, .int .i64 m1, .int .i64 m2, .int .i64 m3] 61) by rw [hV]; exact XM.out)
            have YD := hid (show V9.heap[w.heap.size + 1]? = some (.cells #[.int .i64 0, .int .i64 0, .int .i64 0, .int .i64 0, .int .i64 0, .int .i64 0, .int .i64 0, .int .i64 0, .int .i64 0, .int .i64 0, .int .i64 0] 80) by rw [hV]; exact XD.out)
            have YP := hid (show V9.heap[g8 + 1]? = some (.cells #[.int .i64 (l 0 - n), .int .i64 (h 0 + n), .int .i64 (l 1 - n), .int .i64 (h 1 + n), .int .i64 (l 2 - n), .int .i64 (h 2 + n), .int .i64 (a 5), .int .i64 (a 6), .int .i64 (a 7), .int .i64 (a 8), .int .i64 (a 9)] 80) by rw [hV]; exact XP.out)
            have YW := hid (show Below w.heap.size w V9 by rw [hV]; exact XW.out)
            clear hV XA XB XM XD XP XW
            go_wp2_with fail
            refine gen_act (fun A0 hA => ?_)
            refine wp_region_last (by kernel_rfl) (by kernel_rfl) [some 158, some 159, some 160, some 161, some 162, some 163, some 164, some 165, some 166, some 167, none] rfl (by decide) 10 rfl (by kernel_rfl) (by kernel_rfl)
              [IsV (.pointer (some ⟨g8 + 1, 10, none⟩)), IsV (.int .i64 (a 9)), IsV (.pointer (some ⟨w.heap.size, 3, none⟩)), IsV (.int .i64 m3), IsV (.int .i64 u), IsV (.int .i64 v), IsV (.int .i64 (min u v)), IsV (.int .i64 gd), IsV (.int .i64 (a 9 + gd)), IsV (.pointer (some ⟨g8 + 1, 10, none⟩))]
              ⟨IsV.stb _, IsV.stb _, IsV.stb _, IsV.stb _, IsV.stb _, IsV.stb _, IsV.stb _, IsV.stb _, IsV.stb _, IsV.stb _, trivial⟩ ?hs1_24_W9a ?hlast_24_W9a
            case hs1_24_W9a =>
              refine ⟨?_, ?_, ?_, ?_, ?_, ?_, ?_, ?_, ?_, ?_, trivial⟩
              · intro K us W hK0 hB hd
                have hK := hid hK0; clear hK0
                have HBW := hid hB
                have hsW := hB.size
                have GB := hid (YW.out.trans (hB.mono YW.out.size))
                clear hd
                go_light
                simp only [putF]
                rw [hA]
                go_frame
                go_wp2_with fail
                exact hK.out _ _ _ (by rw [hA]; simp only [putF]; kernel_rfl) (Below.refl _ _) rfl
              · intro K us W hK0 hB hd
                have hK := hid hK0; clear hK0
                have HBW := hid hB
                have hsW := hB.size
                have GB := hid (YW.out.trans (hB.mono YW.out.size))
                have e0 : us 0 = .pointer (some ⟨g8 + 1, 10, none⟩) := hd ⟨0, Ground.data⟩ (by simp) rfl
                clear hd
                go_light
                have G0 := hid (heap_still hB YP.out)
                have c0 : W.cell? ⟨g8 + 1, 10, none⟩ = some (.int .i64 (a 9)) := (cell_row (j := 10) G0.out).trans rfl
                simp only [putF]
                rw [hA, e0]
                go_frame
                go_wp2_with fail
                exact hK.out _ _ _ (by rw [hA]; simp only [putF]; rw [e0]; kernel_rfl) (Below.refl _ _) rfl
              · intro K us W hK0 hB hd
                have hK := hid hK0; clear hK0
                have HBW := hid hB
                have hsW := hB.size
                have GB := hid (YW.out.trans (hB.mono YW.out.size))
                clear hd
                go_light
                simp only [putF]
                rw [hA]
                go_frame
                go_wp2_with fail
                exact hK.out _ _ _ (by rw [hA]; simp only [putF]; kernel_rfl) (Below.refl _ _) rfl
              · intro K us W hK0 hB hd
                have hK := hid hK0; clear hK0
                have HBW := hid hB
                have hsW := hB.size
                have GB := hid (YW.out.trans (hB.mono YW.out.size))
                have e2 : us 2 = .pointer (some ⟨w.heap.size, 3, none⟩) := hd ⟨2, Ground.data⟩ (by simp) rfl
                clear hd
                go_light
                have G0 := hid (heap_still hB YM.out)
                have c0 : W.cell? ⟨w.heap.size, 3, none⟩ = some (.int .i64 m3) := (cell_row (j := 3) G0.out).trans rfl
                simp only [putF]
                rw [hA, e2]
                go_frame
                go_wp2_with fail
                exact hK.out _ _ _ (by rw [hA]; simp only [putF]; rw [e2]; kernel_rfl) (Below.refl _ _) rfl
              · intro K us W hK0 hB hd
                have hK := hid hK0; clear hK0
                have HBW := hid hB
                have hsW := hB.size
                have GB := hid (YW.out.trans (hB.mono YW.out.size))
                clear hd
                go_light
                simp only [putF]
                rw [hA]
                go_frame
                go_wp2_with fail
                exact hK.out _ _ _ (by rw [hA]; simp only [putF]; kernel_rfl) (Below.refl _ _) rfl
              · intro K us W hK0 hB hd
                have hK := hid hK0; clear hK0
                have HBW := hid hB
                have hsW := hB.size
                have GB := hid (YW.out.trans (hB.mono YW.out.size))
                clear hd
                go_light
                simp only [putF]
                rw [hA]
                go_frame
                go_wp2_with fail
                exact hK.out _ _ _ (by rw [hA]; simp only [putF]; kernel_rfl) (Below.refl _ _) rfl
              · intro K us W hK0 hB hd
                have hK := hid hK0; clear hK0
                have HBW := hid hB
                have hsW := hB.size
                have GB := hid (YW.out.trans (hB.mono YW.out.size))
                have e4 : us 4 = .int .i64 u := hd ⟨4, Ground.data⟩ (by simp) rfl
                have e5 : us 5 = .int .i64 v := hd ⟨5, Ground.data⟩ (by simp) rfl
                clear hd
                go_light
                simp only [putF]
                rw [hA, e4, e5]
                go_frame
                go_wp2_with fail
                exact hK.out _ _ _ (by rw [hA]; simp only [putF]; rw [e4, e5]; kernel_rfl) (Below.refl _ _) rfl
              · intro K us W hK0 hB hd
                have hK := hid hK0; clear hK0
                have HBW := hid hB
                have hsW := hB.size
                have GB := hid (YW.out.trans (hB.mono YW.out.size))
                have e3 : us 3 = .int .i64 m3 := hd ⟨3, Ground.data⟩ (by simp) rfl
                have e6 : us 6 = .int .i64 (min u v) := hd ⟨6, Ground.data⟩ (by simp) rfl
                clear hd
                go_light
                simp only [putF]
                rw [hA, e3, e6]
                go_frame
                go_wp2_with fail
                refine (HUP.out W).mono ?_
                rintro r W' ⟨rfl, hb⟩
                go_wp2_with fail
                exact hK.out _ _ _ (by rw [hA]; simp only [putF]; rw [e3, e6]; kernel_rfl) hb rfl
              · intro K us W hK0 hB hd
                have hK := hid hK0; clear hK0
                have HBW := hid hB
                have hsW := hB.size
                have GB := hid (YW.out.trans (hB.mono YW.out.size))
                have e1 : us 1 = .int .i64 (a 9) := hd ⟨1, Ground.data⟩ (by simp) rfl
                have e7 : us 7 = .int .i64 gd := hd ⟨7, Ground.data⟩ (by simp) rfl
                clear hd
                go_light
                simp only [putF]
                rw [hA, e1, e7]
                go_frame
                go_wp2_with fail
                exact hK.out _ _ _ (by rw [hA]; simp only [putF]; rw [e1, e7]; kernel_rfl) (Below.refl _ _) rfl
              · intro K us W hK0 hB hd
                have hK := hid hK0; clear hK0
                have HBW := hid hB
                have hsW := hB.size
                have GB := hid (YW.out.trans (hB.mono YW.out.size))
                clear hd
                go_light
                simp only [putF]
                rw [hA]
                go_frame
                go_wp2_with fail
                exact hK.out _ _ _ (by rw [hA]; simp only [putF]; kernel_rfl) (Below.refl _ _) rfl
            intro K us W9a hK0 hB hp
            have hK := hid hK0
            clear hK0
            have e9 : us 9 = .pointer (some ⟨g8 + 1, 10, none⟩) := hp 9 (by decide)
            have e8 : us 8 = .int .i64 (a 9 + gd) := hp 8 (by decide)
            have HBW9a := hid (YW.out.trans (hB.mono YW.out.size))
            have HSW9a := hid (fun n x => @heap_still _ _ n x hB)
            have hzW9a := hB.size
            have hbW9a := hid hB
            clear hp
            simp only [putF]
            rw [hA, e9, e8]
            skip
            go_frame
            go_wp2_with (refine pt_store1 rfl 3 (.tmp 167) (.tmp 166) rfl (g8 + 1) 10 _ rfl rfl rfl rfl (HSW9a.out _ _ YP.out) size3 (of_decide_eq_true rfl) ?_)
            refine hK.out undef _ _ (by rw [hA]; simp only [putF]; rw [e9, e8]; kernel_rfl) ?_
            clear hK hB hA e9 e8
            have ZP := hid (setRow_heap _ _ _ #[.int .i64 (l 0 - n), .int .i64 (h 0 + n), .int .i64 (l 1 - n), .int .i64 (h 1 + n), .int .i64 (l 2 - n), .int .i64 (h 2 + n), .int .i64 (a 5), .int .i64 (a 6), .int .i64 (a 7), .int .i64 (a 8), .int .i64 (a 9 + gd)] _ _ (HSW9a.out _ _ YP.out))
            have ZD := hid (setRow_past (cells := #[.int .i64 (l 0 - n), .int .i64 (h 0 + n), .int .i64 (l 1 - n), .int .i64 (h 1 + n), .int .i64 (l 2 - n), .int .i64 (h 2 + n), .int .i64 (a 5), .int .i64 (a 6), .int .i64 (a 7), .int .i64 (a 8), .int .i64 (a 9 + gd)]) (HSW9a.out _ _ YD.out) (by omega : w.heap.size + 1 ≠ g8 + 1))
            go_wp2_with (first | (refine wpList_load_at rfl 80 (.tmp 9) rfl rfl ZP.out Try.underlying80 rfl size80b rfl ?_) | (refine wpList_store_at rfl 80 (.tmp 6) (.tmp 168) rfl rfl rfl ZD.out size80b rfl rfl rfl ?_))
            refine bodyPost_ret (results_at1 rfl rfl (setRow_heap _ _ _ _ _ _ ZD.out) Try.underlying80 rfl size80b rfl) rfl ?_
            exact ⟨by rw [HRES2.out]; rfl, below_setRow (below_setRow HBW9a.out (by omega) _) (by omega) _⟩
end Go.Proofs.Yteoikaedpgianaa
