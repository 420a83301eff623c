/- The law's own check: the beam of a half turn to the side. -/
import Derived.Test.YteoikaedpgianaaRows
import Derived.Test.YteoikaedpgianaaAid
import Derived.Test.YteoikaedpgianaaQuat
import Derived.Test.YteoikaedpgianaaCore
import Derived.Lib.SmallJoins
import Derived.BigRegion
import Derived.Laws.CopyOwn
import Derived.Test.YteoikaedpgianaaFlat
import Derived.Test.YteoikaedpgianaaReg
import Derived.Test.YteoikaedpgianaaBeam
namespace Go.Proofs.Yteoikaedpgianaa
open Go.RowKit
theorem size181 : (Try.prog.info? 181).map (·.size) = some 16 := by kernel_rfl
/-- four integers in a block -/
def row4 (x0 x1 x2 x3 : Int) : Obj := .cells #[.int .i64 x0, .int .i64 x1, .int .i64 x2, .int .i64 x3] 22
def tabU : Obj := .cells #[.int .i64 0, .int .i64 1, .int .i64 2, .int .i64 3, .int .i64 1, .int .i64 0, .int .i64 3, .int .i64 2, .int .i64 2, .int .i64 3, .int .i64 0, .int .i64 1, .int .i64 3, .int .i64 2, .int .i64 1, .int .i64 0] 181
def tabM : Obj := .cells #[.int .i64 1, .int .i64 1, .int .i64 1, .int .i64 1, .int .i64 1, .int .i64 (-1), .int .i64 1, .int .i64 (-1), .int .i64 1, .int .i64 (-1), .int .i64 (-1), .int .i64 1, .int .i64 1, .int .i64 1, .int .i64 (-1), .int .i64 (-1)] 181
def StT (p q : List Int) (n : Nat) (B : Nat) (W wr : World) : Prop :=
  wr.heap[B]? = some (row4 (Quat.acc p q n 0) (Quat.acc p q n 1) (Quat.acc p q n 2) (Quat.acc p q n 3)) ∧ Below B W wr
theorem cell_at {W wr : World} {B b j : Nat} {C : Array Value} {t : TypeId} {fr : Nat × Nat} (hb : Below B W wr) (hlt : b < B) (h : W.heap[b]? = some (.cells C t fr)) :
    wr.cell? ⟨b, j, none⟩ = C[j]? := by
  rw [hb.cell (p := ⟨b, j, none⟩) hlt]; exact cell_row h
theorem StT_step {p q : List Int} {n B j : Nat} {W wr : World} {v : Int} (h : StT p q n B W wr) (hj : Quat.un (n / 4) (n % 4) = j) (hj4 : j < 4)
    (hv : v = Quat.acc p q n j + Quat.sg (n / 4) (n % 4) * p.getD (n / 4) 0 * q.getD (n % 4) 0) : StT p q (n + 1) B W (wr.setCell ⟨B, j, none⟩ (.int .i64 v)) := by
  obtain ⟨h1, h2⟩ := h
  refine ⟨?_, h2.setCell (Nat.le_refl _) _⟩
  have e : ∀ i, Quat.acc p q (n + 1) i = if j = i then v else Quat.acc p q n i := by
    intro i
    simp only [Quat.acc, hj]
    split
    · rename_i h; subst h; rw [hv]
    · omega
  rw [Joins.block_setCell h1, e 0, e 1, e 2, e 3]
  match j, hj4 with
  | 0, _ | 1, _ | 2, _ | 3, _ => rfl
theorem StT_drew {p q : List Int} {n B : Nat} {W wr : World} (h : StT p q n B W wr) : StT p q n B W wr.drew := ⟨h.1, h.2.drew⟩
theorem StT_cell {p q : List Int} {n B j : Nat} {W wr : World} (h : StT p q n B W wr) (hj4 : j < 4) : wr.cell? ⟨B, j, none⟩ = some (.int .i64 (Quat.acc p q n j)) := by
  rw [cell_row h.1]
  match j, hj4 with
  | 0, _ | 1, _ | 2, _ | 3, _ => rfl
theorem un_lt (m k : Nat) (hm : m < 4) (hk : k < 4) : Quat.un m k < 4 := by
  have h1 : m = 0 ∨ m = 1 ∨ m = 2 ∨ m = 3 := by omega
  have h2 : k = 0 ∨ k = 1 ∨ k = 2 ∨ k = 3 := by omega
  rcases h1 with rfl | rfl | rfl | rfl <;> rcases h2 with rfl | rfl | rfl | rfl <;> decide
theorem StT_next {p q : List Int} {m k B : Nat} {W wr : World} {v x : Int} (hm : m < 4) (hk : k < 4) (h : StT p q (4 * m + k) B W wr) (hx : Quat.acc p q (4 * m + k) (Quat.un m k) = x)
    (hv : v = x + Quat.sg m k * p.getD m 0 * q.getD k 0) : StT p q (4 * m + (k + 1)) B W (wr.setCell ⟨B, Quat.un m k, none⟩ (.int .i64 v)).drew := by
  have e1 : (4 * m + k) / 4 = m := by omega
  have e2 : (4 * m + k) % 4 = k := by omega
  exact StT_drew (StT_step (n := 4 * m + k) h (by rw [e1, e2]) (un_lt m k hm hk) (by rw [e1, e2, hx]; exact hv))
theorem tab_at {wr W : World} {B b b' : Nat} (hB : Below B W wr) (h1 : b < B) (h2 : b' < B) (hU : W.heap[b]? = some tabU) (hM : W.heap[b']? = some tabM) (m k : Nat) (hm : m < 4) (hk : k < 4) :
    wr.cell? ⟨b, m * 4 + k, none⟩ = some (.int .i64 (Quat.un m k)) ∧ wr.cell? ⟨b', m * 4 + k, none⟩ = some (.int .i64 (Quat.sg m k)) := by
  rw [cell_at hB h1 hU, cell_at hB h2 hM]
  have e1 : m = 0 ∨ m = 1 ∨ m = 2 ∨ m = 3 := by omega
  have e2 : k = 0 ∨ k = 1 ∨ k = 2 ∨ k = 3 := by omega
  rcases e1 with rfl | rfl | rfl | rfl <;> rcases e2 with rfl | rfl | rfl | rfl <;> exact ⟨rfl, rfl⟩
theorem row4_at {wr W : World} {B b : Nat} {x0 x1 x2 x3 : Int} (hB : Below B W wr) (h1 : b < B) (h : W.heap[b]? = some (row4 x0 x1 x2 x3)) (k : Nat) (hk : k < 4) :
    wr.cell? ⟨b, k, none⟩ = some (.int .i64 ([x0, x1, x2, x3].getD k 0)) := by
  rw [cell_at hB h1 h]
  match k, hk with
  | 0, _ | 1, _ | 2, _ | 3, _ => rfl
set_option maxRecDepth 100000 in
set_option maxHeartbeats 1600000 in
theorem times_any (a b c d e f g h : Int) (w : World)
    (hp : ∀ i, i < 4 → -4000000 ≤ [a, b, c, d].getD i 0 ∧ [a, b, c, d].getD i 0 ≤ 4000000) (hq : ∀ i, i < 4 → -4000000 ≤ [e, f, g, h].getD i 0 ∧ [e, f, g, h].getD i 0 ≤ 4000000) :
    Calls Try.prog 75 #[.agg #[.int .i64 a, .int .i64 b, .int .i64 c, .int .i64 d], .agg #[.int .i64 e, .int .i64 f, .int .i64 g, .int .i64 h]] w
      fun r w' => r = .returned (.agg #[.int .i64 (Quat.m0 a b c d e f g h), .int .i64 (Quat.m1 a b c d e f g h), .int .i64 (Quat.m2 a b c d e f g h), .int .i64 (Quat.m3 a b c d e f g h)]) ∧ Below w.heap.size w w' := by
  have HP := hid hp; clear hp
  have HQ := hid hq; clear hq
  go_enter Try.func75, Try.ntmps75
  go_wp2_with (first | (refine wpList_store_new rfl 181 (.tmp 5) (.tmp 14) rfl rfl rfl ?_ size181 rfl rfl rfl ?_; (focus (simp; done))) | (refine wpList_store_new rfl 181 (.tmp 6) (.tmp 19) rfl rfl rfl ?_ size181 rfl rfl rfl ?_; (focus (simp; done))))
  refine gen_world (fun W hW => ?_)
  have f2 := hid (show W.heap[w.heap.size]? = some (row4 a b c d) from by rw [hW]; exact (by repeat' (first | (refine heap_alloc_at _ _ _ ?_; (first | rfl | (simp; done) | (simp; omega))) | (refine heap_alloc_past _ _ _ _ ?_))))
  have f3 := hid (show W.heap[w.heap.size + 1]? = some (row4 e f g h) from by rw [hW]; exact (by repeat' (first | (refine heap_alloc_at _ _ _ ?_; (first | rfl | (simp; done) | (simp; omega))) | (refine heap_alloc_past _ _ _ _ ?_))))
  have f4 := hid (show W.heap[w.heap.size + 1 + 1]? = some (row4 0 0 0 0) from by rw [hW]; exact (by repeat' (first | (refine heap_alloc_at _ _ _ ?_; (first | rfl | (simp; done) | (simp; omega))) | (refine heap_alloc_past _ _ _ _ ?_))))
  have f5 := hid (show W.heap[w.heap.size + 1 + 1 + 1]? = some tabU from by rw [hW]; exact (by repeat' (first | (refine heap_alloc_at _ _ _ ?_; (first | rfl | (simp; done) | (simp; omega))) | (refine heap_alloc_past _ _ _ _ ?_))))
  have f6 := hid (show W.heap[w.heap.size + 1 + 1 + 1 + 1]? = some tabM from by rw [hW]; exact (by repeat' (first | (refine heap_alloc_at _ _ _ ?_; (first | rfl | (simp; done) | (simp; omega))) | (refine heap_alloc_past _ _ _ _ ?_))))
  have f7 := hid (show W.heap[w.heap.size + 1 + 1 + 1 + 1 + 1]? = some (row4 0 0 0 0) from by rw [hW]; exact (by repeat' (first | (refine heap_alloc_at _ _ _ ?_; (first | rfl | (simp; done) | (simp; omega))) | (refine heap_alloc_past _ _ _ _ ?_))))
  have hb := hid (show Below w.heap.size w W by rw [hW]; (repeat' (first | (with_reducible exact Below.refl _ _) | (with_reducible assumption) | (with_reducible refine Below.alloc ?_ ?_ _) | (with_reducible refine Below.drew ?_) | (with_reducible refine below_drewN ?_ _) | (with_reducible refine Below.setCell ?_ ?_ _) | (with_reducible refine below_setRow ?_ ?_ _) | go_size)))
  clear hW
  go_loopw [20] (fun i wr => ∃ m : Nat, m ≤ 4 ∧ i = .int .i64 m ∧ StT [a, b, c, d] [e, f, g, h] (4 * m) (w.heap.size + 1 + 1 + 1 + 1 + 1) W wr) (fun i _ => 4 - (intOf i).toNat)
  case atStart => exact ⟨0, by omega, rfl, f7.out, Below.refl _ _⟩
  case round =>
    obtain ⟨m, hm, rfl, hst⟩ := hrel
    have HS := hid hst; clear hst
    by_cases hlt : m < 4
    · obtain ⟨wo, rfl⟩ : ∃ wo : World, wo = wr := ⟨_, rfl⟩
      go_wp2
      go_loopw [23] (fun i wr => ∃ k : Nat, k ≤ 4 ∧ i = .int .i64 k ∧ StT [a, b, c, d] [e, f, g, h] (4 * m + k) (w.heap.size + 1 + 1 + 1 + 1 + 1) W wr) (fun i _ => 4 - (intOf i).toNat)
      case atStart => exact ⟨0, by omega, rfl, HS.out⟩
      case round =>
        clear HS
        obtain ⟨k, hk, rfl, hst⟩ := hrel
        have HS := hid hst; clear hst
        by_cases hlt2 : k < 4
        · have hB := (HS.out).2
          obtain ⟨c5, c6⟩ := tab_at hB (by omega) (by omega) f5.out f6.out m k hlt hlt2
          have c2 := row4_at hB (by omega) f2.out m hlt
          have c3 := row4_at hB (by omega) f3.out k hlt2
          have c7 := StT_cell HS.out (un_lt m k hlt hlt2)
          have z7 := Joins.unfrozen_of_block (HS.out).1 (Quat.un m k)
          have hbd := Quat.acc_bd (M := 4000000 * 4000000) (by omega) (fun i k hi hk => Quat.mul_bd (HP.out i hi) (HQ.out k hk)) (Quat.un m k) (4 * m + k) (by omega)
          have hbx : -256000000000000 ≤ Quat.acc [a, b, c, d] [e, f, g, h] (4 * m + k) (Quat.un m k) ∧ Quat.acc [a, b, c, d] [e, f, g, h] (4 * m + k) (Quat.un m k) ≤ 256000000000000 := by omega
          have hpm := HP.out m hlt
          have hqk := HQ.out k hlt2
          have hpq := Quat.mul_bd hpm hqk
          have HF := fun v x => hid (@StT_next [a, b, c, d] [e, f, g, h] m k (w.heap.size + 1 + 1 + 1 + 1 + 1) W wr v x hlt hlt2 HS.out)
          have hu := un_lt m k hlt hlt2
          have hs := Quat.sg_one m k hlt hlt2
          generalize hx : Quat.acc [a, b, c, d] [e, f, g, h] (4 * m + k) (Quat.un m k) = x at *
          have HX := hid hx; clear hx hbd hB
          generalize [a, b, c, d].getD m 0 = pm at *
          generalize [e, f, g, h].getD k 0 = qk at *
          generalize Quat.un m k = u at *
          generalize Quat.sg m k = s at *
          have hpn : -16000000000000 ≤ -pm * qk ∧ -pm * qk ≤ 16000000000000 := by rw [Int.neg_mul]; omega
          rcases hs with rfl | rfl
          · go_wp2
            go_region
            go_wp2
            go_roundw
            case rel => exact ⟨_, by omega, by go_num, (HF _ _).out rfl (by rw [Int.one_mul])⟩
            case measure => simp [intOf]; omega
          · go_wp2
            go_region
            go_wp2
            go_roundw
            case rel => exact ⟨_, by omega, by go_num, (HF _ _).out rfl (by rw [show (-1 : Int) * pm = -pm from by omega])⟩
            case measure => simp [intOf]; omega
        · have : k = 4 := by omega
          subst this
          go_wp2
          go_roundw
          case rel => exact ⟨m + 1, by omega, by go_num, HS.out⟩
          case measure => simp [intOf]; omega
    · have : m = 4 := by omega
      subst this
      have hB := HS.out.2
      have c70 := StT_cell (j := 0) HS.out (by omega)
      have c71 := StT_cell (j := 1) HS.out (by omega)
      have c72 := StT_cell (j := 2) HS.out (by omega)
      have c73 := StT_cell (j := 3) HS.out (by omega)
      have g4 := heap_below hB (by omega) f4.out
      have G4 := hid g4
      have HE := hid (Quat.acc_16 a b c d e f g h)
      have HB := hid ((hb.out).trans (hB.mono (show w.heap.size ≤ _ by omega)))
      clear g4 hB
      rw [HE.out.1] at c70
      rw [HE.out.2.1] at c71
      rw [HE.out.2.2.1] at c72
      rw [HE.out.2.2.2] at c73
      go_wp2_with (refine wpList_store_at rfl 22 (.tmp 4) (.tmp 50) rfl rfl rfl G4.out size22 rfl rfl rfl ?_)
      refine bodyPost_ret (results_at1 rfl rfl (setRow_heap _ _ _ _ _ _ G4.out) Try.underlying22 rfl size22 rfl) rfl ?_
      exact ⟨rfl, below_setRow HB.out (by omega) _⟩
theorem ok4_iff {l a b c d : Int} : ok4 l a b c d = true ↔ (-l ≤ a ∧ a ≤ l) ∧ (-l ≤ b ∧ b ≤ l) ∧ (-l ≤ c ∧ c ≤ l) ∧ (-l ≤ d ∧ d ≤ l) := by
  simp [ok4, inB]

set_option maxRecDepth 100000 in
set_option maxHeartbeats 800000 in
theorem qproduct_any (a b c d e f g h : Int) (w : World) (hp : ok4 1000 a b c d = true) (hq : ok4 1000 e f g h = true) :
    Calls Try.prog 73 #[.agg #[.int .i64 a, .int .i64 b, .int .i64 c, .int .i64 d], .agg #[.int .i64 e, .int .i64 f, .int .i64 g, .int .i64 h]] w
      fun r w' => r = .returned (.agg #[.int .i64 (Quat.m0 a b c d e f g h), .int .i64 (Quat.m1 a b c d e f g h), .int .i64 (Quat.m2 a b c d e f g h), .int .i64 (Quat.m3 a b c d e f g h)]) ∧ Below w.heap.size w w' := by
  obtain ⟨ha, hb, hc, hd⟩ := ok4_iff.1 hp
  obtain ⟨he, hf, hg, hh⟩ := ok4_iff.1 hq
  clear hp hq
  have hae := Quat.mul_bd ha he
  have haf := Quat.mul_bd ha hf
  have hag := Quat.mul_bd ha hg
  have hah := Quat.mul_bd ha hh
  have hbe := Quat.mul_bd hb he
  have hbf := Quat.mul_bd hb hf
  have hbg := Quat.mul_bd hb hg
  have hbh := Quat.mul_bd hb hh
  have hce := Quat.mul_bd hc he
  have hcf := Quat.mul_bd hc hf
  have hcg := Quat.mul_bd hc hg
  have hch := Quat.mul_bd hc hh
  have hde := Quat.mul_bd hd he
  have hdf := Quat.mul_bd hd hf
  have hdg := Quat.mul_bd hd hg
  have hdh := Quat.mul_bd hd hh
  clear ha hb hc hd he hf hg hh
  go_enter Try.func73, Try.ntmps73
  go_wp2
  go_quiet (fail)
  go_wp2
  go_quiet (fail)
  go_wp2
  go_returns
  refine ⟨rfl, ?_⟩
  (repeat' (first | (with_reducible exact Below.refl _ _) | (with_reducible assumption) | (with_reducible refine Below.alloc ?_ ?_ _) | (with_reducible refine Below.drew ?_) | (with_reducible refine below_drewN ?_ _) | (with_reducible refine Below.setCell ?_ ?_ _) | (with_reducible refine below_setRow ?_ ?_ _) | go_size))

set_option maxRecDepth 100000 in
set_option maxHeartbeats 800000 in
theorem qbeam_any (W X Y Z : Int) (w : World) (ha : -4000000 ≤ W ∧ W ≤ 4000000) (hb : -4000000 ≤ X ∧ X ≤ 4000000) (hc : -4000000 ≤ Y ∧ Y ≤ 4000000) (hd : -4000000 ≤ Z ∧ Z ≤ 4000000) :
    Calls Try.prog 76 #[.agg #[.int .i64 W, .int .i64 X, .int .i64 Y, .int .i64 Z]] w
      fun r w' => r = .returned (.tuple #[.agg #[.int .i64 (Quat.k0 W X Y Z), .int .i64 (Quat.k1 W X Y Z), .int .i64 (Quat.k2 W X Y Z)], .int .i64 (Quat.nn W X Y Z)]) ∧ Below w.heap.size w w' := by
  have h1 := Quat.mul_bd ha ha
  have h2 := Quat.mul_bd ha hb
  have h3 := Quat.mul_bd ha hc
  have h4 := Quat.mul_bd ha hd
  have h5 := Quat.mul_bd hb hb
  have h6 := Quat.mul_bd hb hc
  have h7 := Quat.mul_bd hb hd
  have h8 := Quat.mul_bd hc hc
  have h9 := Quat.mul_bd hc hd
  have h10 := Quat.mul_bd hd hd
  clear ha hb hc hd
  go_enter Try.func76, Try.ntmps76
  go_wp2
  go_quiet (fail)
  go_wp2
  go_returns
  refine ⟨rfl, ?_⟩
  (repeat' (first | (with_reducible exact Below.refl _ _) | (with_reducible assumption) | (with_reducible refine Below.alloc ?_ ?_ _) | (with_reducible refine Below.drew ?_) | (with_reducible refine below_drewN ?_ _) | (with_reducible refine Below.setCell ?_ ?_ _) | (with_reducible refine below_setRow ?_ ?_ _) | go_size))

/-- both quaternions are within the limit of a product -/
def okP (a b c d e f g h : Int) : Bool := ok4 1000 a b c d && ok4 1000 e f g h

theorem product_no (a b c d e f g h : Int) (w : World) (hok : okP a b c d e f g h = false) :
    Calls Try.prog 20 #[.agg #[.int .i64 a, .int .i64 b, .int .i64 c, .int .i64 d], .agg #[.int .i64 e, .int .i64 f, .int .i64 g, .int .i64 h]] w
      fun r w' => r = .returned (.tuple #[.agg #[.int .i64 0, .int .i64 0, .int .i64 0, .int .i64 0], .int .i64 46]) ∧ Below w.heap.size w w' := by
  have HO := hid hok; clear hok
  by_cases h1 : ok4 1000 a b c d = true
  · have h2 : ok4 1000 e f g h = false := by have := HO.out; unfold okP at this; rw [h1] at this; simpa using this
    have H1 := hid h1; clear h1
    have H2 := hid h2; clear h2
    go_enter Try.func20, Try.ntmps20
    go_wp2_with fail
    refine (within_any _ _ _ _ _ _ [a, b, c, d] _ rfl (by simp) (cells_ints _ (by repeat' (first | (refine heap_alloc_at _ _ _ ?_; (first | rfl | (simp; done) | (simp; omega))) | (refine heap_alloc_past _ _ _ _ ?_))) rfl)).mono ?_
    rintro r w' ⟨rfl, rfl⟩
    rw [show [a, b, c, d].all (inB (-1000) 1000) = true from H1.out]
    go_wp2_with fail
    refine (within_any _ _ _ _ _ _ [e, f, g, h] _ rfl (by simp) (cells_ints _ (by repeat' (first | (refine heap_alloc_at _ _ _ ?_; (first | rfl | (simp; done) | (simp; omega))) | (refine heap_alloc_past _ _ _ _ ?_))) rfl)).mono ?_
    rintro r w' ⟨rfl, rfl⟩
    rw [show [e, f, g, h].all (inB (-1000) 1000) = false from H2.out]
    go_wp2_with fail
    go_returns
    refine ⟨rfl, ?_⟩
    (repeat' (first | (with_reducible exact Below.refl _ _) | (with_reducible assumption) | (with_reducible refine Below.alloc ?_ ?_ _) | (with_reducible refine Below.drew ?_) | (with_reducible refine below_drewN ?_ _) | (with_reducible refine Below.setCell ?_ ?_ _) | (with_reducible refine below_setRow ?_ ?_ _) | go_size))
  · have H1 := hid (Bool.eq_false_iff.2 h1); clear h1
    go_enter Try.func20, Try.ntmps20
    go_wp2_with fail
    refine (within_any _ _ _ _ _ _ [a, b, c, d] _ rfl (by simp) (cells_ints _ (by repeat' (first | (refine heap_alloc_at _ _ _ ?_; (first | rfl | (simp; done) | (simp; omega))) | (refine heap_alloc_past _ _ _ _ ?_))) rfl)).mono ?_
    rintro r w' ⟨rfl, rfl⟩
    rw [show [a, b, c, d].all (inB (-1000) 1000) = false from H1.out]
    go_wp2_with fail
    go_returns
    refine ⟨rfl, ?_⟩
    (repeat' (first | (with_reducible exact Below.refl _ _) | (with_reducible assumption) | (with_reducible refine Below.alloc ?_ ?_ _) | (with_reducible refine Below.drew ?_) | (with_reducible refine below_drewN ?_ _) | (with_reducible refine Below.setCell ?_ ?_ _) | (with_reducible refine below_setRow ?_ ?_ _) | go_size))

theorem product_yes (a b c d e f g h : Int) (w : World) (hok : okP a b c d e f g h = true) :
    Calls Try.prog 20 #[.agg #[.int .i64 a, .int .i64 b, .int .i64 c, .int .i64 d], .agg #[.int .i64 e, .int .i64 f, .int .i64 g, .int .i64 h]] w
      fun r w' => r = .returned (.tuple #[.agg #[.int .i64 (Quat.m0 a b c d e f g h), .int .i64 (Quat.m1 a b c d e f g h), .int .i64 (Quat.m2 a b c d e f g h), .int .i64 (Quat.m3 a b c d e f g h)], .int .i64 0]) ∧ Below w.heap.size w w' := by
  unfold okP at hok
  rw [Bool.and_eq_true] at hok
  obtain ⟨h1, h2⟩ := hok
  have H1 := hid h1; clear h1
  have H2 := hid h2; clear h2
  go_enter Try.func20, Try.ntmps20
  go_wp2_with fail
  refine (within_any _ _ _ _ _ _ [a, b, c, d] _ rfl (by simp) (cells_ints _ (by repeat' (first | (refine heap_alloc_at _ _ _ ?_; (first | rfl | (simp; done) | (simp; omega))) | (refine heap_alloc_past _ _ _ _ ?_))) rfl)).mono ?_
  rintro r w' ⟨rfl, rfl⟩
  rw [show [a, b, c, d].all (inB (-1000) 1000) = true from H1.out]
  go_wp2_with fail
  refine (within_any _ _ _ _ _ _ [e, f, g, h] _ rfl (by simp) (cells_ints _ (by repeat' (first | (refine heap_alloc_at _ _ _ ?_; (first | rfl | (simp; done) | (simp; omega))) | (refine heap_alloc_past _ _ _ _ ?_))) rfl)).mono ?_
  rintro r w' ⟨rfl, rfl⟩
  rw [show [e, f, g, h].all (inB (-1000) 1000) = true from H2.out]
  go_wp2_with fail
  refine (qproduct_any a b c d e f g h _ H1.out H2.out).mono ?_
  rintro r w1 ⟨rfl, hb⟩
  have G4 := hid (heap_below hb (by first | (simp; done) | (simp; omega)) (by repeat' (first | (refine heap_alloc_at _ _ _ ?_; (first | rfl | (simp; done) | (simp; omega))) | (refine heap_alloc_past _ _ _ _ ?_))) : w1.heap[w.heap.size + 1 + 1]? = some (row4 0 0 0 0))
  have HB := hid ((by refine Below.trans ?_ (hb.mono ?_); (focus ((repeat' (first | (with_reducible exact Below.refl _ _) | (with_reducible assumption) | (with_reducible refine Below.alloc ?_ ?_ _) | (with_reducible refine Below.drew ?_) | (with_reducible refine below_drewN ?_ _) | (with_reducible refine Below.setCell ?_ ?_ _) | (with_reducible refine below_setRow ?_ ?_ _) | go_size)); done)); (focus (first | (simp; done) | (simp; omega)))) : Below w.heap.size w w1)
  clear hb
  go_wp2_with (refine wpList_store_at rfl 22 (.tmp 4) (.tmp 17) rfl rfl rfl G4.out size22 rfl rfl rfl ?_)
  refine bodyPost_ret (results_at2 rfl rfl (setRow_heap _ _ _ _ _ _ G4.out) Try.underlying22 rfl size22 rfl) rfl ?_
  exact ⟨rfl, below_setRow HB.out (by omega) _⟩

theorem ok4_getD {l a b c d : Int} (h : ok4 l a b c d = true) (i : Nat) (hi : i < 4) : -l ≤ [a, b, c, d].getD i 0 ∧ [a, b, c, d].getD i 0 ≤ l := by
  obtain ⟨h0, h1, h2, h3⟩ := ok4_iff.1 h
  match i, hi with
  | 0, _ => exact h0
  | 1, _ => exact h1
  | 2, _ => exact h2
  | 3, _ => exact h3
theorem okP_of {a b c d e f g h : Int} (h1 : ([a, b, c, d].take 4).all (inB (-1000) 1000) = true) (h2 : ([e, f, g, h].take 4).all (inB (-1000) 1000) = true) : okP a b c d e f g h = true := by
  simp only [List.take_succ_cons, List.take_zero] at h1 h2
  unfold okP ok4; rw [h1, h2]; rfl
theorem okP_no1 {a b c d e f g h : Int} (h1 : [a, b, c, d].all (inB (-1000) 1000) = false) : okP a b c d e f g h = false := by
  unfold okP ok4; rw [h1]; rfl
theorem okP_no2 {a b c d e f g h : Int} (h1 : [e, f, g, h].all (inB (-1000) 1000) = false) : okP a b c d e f g h = false := by
  unfold okP ok4; rw [h1, Bool.and_false]

/-- what a product returns -/
def prE (a b c d e f g h : Int) : Int := if okP a b c d e f g h = true then 0 else 46
def pr0 (a b c d e f g h : Int) : Int := if okP a b c d e f g h = true then Quat.m0 a b c d e f g h else 0
def pr1 (a b c d e f g h : Int) : Int := if okP a b c d e f g h = true then Quat.m1 a b c d e f g h else 0
def pr2 (a b c d e f g h : Int) : Int := if okP a b c d e f g h = true then Quat.m2 a b c d e f g h else 0
def pr3 (a b c d e f g h : Int) : Int := if okP a b c d e f g h = true then Quat.m3 a b c d e f g h else 0
def prV (a b c d e f g h : Int) : Value := .tuple #[.agg #[.int .i64 (pr0 a b c d e f g h), .int .i64 (pr1 a b c d e f g h), .int .i64 (pr2 a b c d e f g h), .int .i64 (pr3 a b c d e f g h)], .int .i64 (prE a b c d e f g h)]
theorem prV_yes {a b c d e f g h : Int} (k : okP a b c d e f g h = true) : prV a b c d e f g h = .tuple #[.agg #[.int .i64 (Quat.m0 a b c d e f g h), .int .i64 (Quat.m1 a b c d e f g h), .int .i64 (Quat.m2 a b c d e f g h), .int .i64 (Quat.m3 a b c d e f g h)], .int .i64 0] := by
  simp [prV, pr0, pr1, pr2, pr3, prE, k]
theorem prV_no {a b c d e f g h : Int} (k : okP a b c d e f g h = false) : prV a b c d e f g h = .tuple #[.agg #[.int .i64 0, .int .i64 0, .int .i64 0, .int .i64 0], .int .i64 46] := by
  simp [prV, pr0, pr1, pr2, pr3, prE, k]

theorem product_any (a b c d e f g h : Int) (w : World) :
    Calls Try.prog 20 #[.agg #[.int .i64 a, .int .i64 b, .int .i64 c, .int .i64 d], .agg #[.int .i64 e, .int .i64 f, .int .i64 g, .int .i64 h]] w
      fun r w' => r = .returned (prV a b c d e f g h) ∧ Below w.heap.size w w' := by
  by_cases k : okP a b c d e f g h = true
  · rw [prV_yes k]; exact product_yes a b c d e f g h w k
  · rw [prV_no (Bool.eq_false_iff.2 k)]; exact product_no a b c d e f g h w (Bool.eq_false_iff.2 k)

set_option maxRecDepth 100000 in
set_option maxHeartbeats 800000 in
theorem rproduct_any (a b c d e f g h : Int) (w : World) :
    Calls Try.prog 21 #[.agg #[.int .i64 a, .int .i64 b, .int .i64 c, .int .i64 d], .agg #[.int .i64 e, .int .i64 f, .int .i64 g, .int .i64 h]] w
      fun r w' => r = .returned (prV a b c d e f g h) ∧ Below w.heap.size w w' := by
  go_enter Try.func21, Try.ntmps21
  go_wp2
  refine gen_world (fun W hW => ?_)
  have f2 := hid (show W.heap[w.heap.size]? = some (row4 a b c d) from by rw [hW]; exact (by repeat' (first | (refine heap_alloc_at _ _ _ ?_; (first | rfl | (simp; done) | (simp; omega))) | (refine heap_alloc_past _ _ _ _ ?_))))
  have f3 := hid (show W.heap[w.heap.size + 1]? = some (row4 e f g h) from by rw [hW]; exact (by repeat' (first | (refine heap_alloc_at _ _ _ ?_; (first | rfl | (simp; done) | (simp; omega))) | (refine heap_alloc_past _ _ _ _ ?_))))
  have f4 := hid (show W.heap[w.heap.size + 1 + 1]? = some (row4 0 0 0 0) from by rw [hW]; exact (by repeat' (first | (refine heap_alloc_at _ _ _ ?_; (first | rfl | (simp; done) | (simp; omega))) | (refine heap_alloc_past _ _ _ _ ?_))))
  have hb := hid (show Below w.heap.size w W by rw [hW]; (repeat' (first | (with_reducible exact Below.refl _ _) | (with_reducible assumption) | (with_reducible refine Below.alloc ?_ ?_ _) | (with_reducible refine Below.drew ?_) | (with_reducible refine below_drewN ?_ _) | (with_reducible refine Below.setCell ?_ ?_ _) | (with_reducible refine below_setRow ?_ ?_ _) | go_size)))
  have hs := (show w.heap.size + 1 + 1 + 1 = W.heap.size by rw [hW]; simp)
  have HS := hid hs
  clear hW hs
  go_loop [7] (fun i => ∃ k : Nat, k ≤ 4 ∧ i = .int .i64 k ∧ ([a, b, c, d].take k).all (inB (-1000) 1000) = true ∧ ([e, f, g, h].take k).all (inB (-1000) 1000) = true) (fun i => 4 - (intOf i).toNat)
  case atStart => exact ⟨0, by omega, rfl, rfl, rfl⟩
  case round =>
    obtain ⟨k, hk, rfl, hall, hall2⟩ := hrel
    have HA := hid hall; clear hall
    have HA2 := hid hall2; clear hall2
    by_cases hlt : k < 4
    · have c2 := row4_at (Below.refl (w.heap.size + 1 + 1 + 1) W) (by omega) f2.out k hlt
      have c3 := row4_at (Below.refl (w.heap.size + 1 + 1 + 1) W) (by omega) f3.out k hlt
      have hs1 := hid (inB_step (zs := [a, b, c, d]) hlt HA.out)
      have hs2 := hid (inB_step (zs := [e, f, g, h]) hlt HA2.out)
      have HST := hid (@inB_stop [a, b, c, d] (inB (-1000) 1000) k hlt)
      have HST2 := hid (@inB_stop [e, f, g, h] (inB (-1000) 1000) k hlt)
      generalize [a, b, c, d].getD k 0 = x at *
      generalize [e, f, g, h].getD k 0 = y at *
      go_wp2_with fail
      refine (from_any _ _ _ _).mono ?_
      rintro r w' ⟨rfl, rfl⟩
      by_cases k1 : inB (-1000) 1000 x = true
      · have K1 := hid k1; clear k1
        rw [K1.out]
        go_wp2_with fail
        refine (from_any _ _ _ _).mono ?_
        rintro r w' ⟨rfl, rfl⟩
        by_cases k2 : inB (-1000) 1000 y = true
        · have K2 := hid k2; clear k2
          rw [K2.out]
          go_wp2_with fail
          go_round
          case rel => exact ⟨k + 1, by omega, by go_num, by rw [hs1.out]; exact K1.out, by rw [hs2.out]; exact K2.out⟩
          case measure => simp [intOf]; omega
        · have K2 := hid (Bool.eq_false_iff.2 k2); clear k2
          rw [K2.out]
          go_wp2_with (refine wpList_store_at rfl 22 (.tmp 4) (.tmp 22) rfl rfl rfl f4.out size22 rfl rfl rfl ?_)
          refine bodyPost_ret (results_at2 rfl rfl (setRow_heap _ _ _ _ _ _ f4.out) Try.underlying22 rfl size22 rfl) rfl ?_
          exact ⟨by rw [prV_no (okP_no2 (HST2.out K2.out))]; rfl, below_setRow hb.out (by omega) _⟩
      · have K1 := hid (Bool.eq_false_iff.2 k1); clear k1
        rw [K1.out]
        go_wp2_with (refine wpList_store_at rfl 22 (.tmp 4) (.tmp 22) rfl rfl rfl f4.out size22 rfl rfl rfl ?_)
        refine bodyPost_ret (results_at2 rfl rfl (setRow_heap _ _ _ _ _ _ f4.out) Try.underlying22 rfl size22 rfl) rfl ?_
        exact ⟨by rw [prV_no (okP_no1 (HST.out K1.out))]; rfl, below_setRow hb.out (by omega) _⟩
    · have : k = 4 := by omega
      subst this
      have HO := hid (okP_of HA.out HA2.out)
      have h1 := HO.out
      unfold okP at h1
      rw [Bool.and_eq_true] at h1
      have B1 := hid (fun i hi => (⟨by have := (ok4_getD h1.1 i hi).1; omega, by have := (ok4_getD h1.1 i hi).2; omega⟩ : -4000000 ≤ [a, b, c, d].getD i 0 ∧ [a, b, c, d].getD i 0 ≤ 4000000))
      have B2 := hid (fun i hi => (⟨by have := (ok4_getD h1.2 i hi).1; omega, by have := (ok4_getD h1.2 i hi).2; omega⟩ : -4000000 ≤ [e, f, g, h].getD i 0 ∧ [e, f, g, h].getD i 0 ≤ 4000000))
      clear h1
      have c20 := row4_at (Below.refl (w.heap.size + 1 + 1 + 1) W) (by omega) f2.out 0 (by omega)
      have c21 := row4_at (Below.refl (w.heap.size + 1 + 1 + 1) W) (by omega) f2.out 1 (by omega)
      have c22 := row4_at (Below.refl (w.heap.size + 1 + 1 + 1) W) (by omega) f2.out 2 (by omega)
      have c23 := row4_at (Below.refl (w.heap.size + 1 + 1 + 1) W) (by omega) f2.out 3 (by omega)
      have c30 := row4_at (Below.refl (w.heap.size + 1 + 1 + 1) W) (by omega) f3.out 0 (by omega)
      have c31 := row4_at (Below.refl (w.heap.size + 1 + 1 + 1) W) (by omega) f3.out 1 (by omega)
      have c32 := row4_at (Below.refl (w.heap.size + 1 + 1 + 1) W) (by omega) f3.out 2 (by omega)
      have c33 := row4_at (Below.refl (w.heap.size + 1 + 1 + 1) W) (by omega) f3.out 3 (by omega)
      go_wp2_with fail
      refine (times_any a b c d e f g h _ B1.out B2.out).mono ?_
      rintro r w1 ⟨rfl, hb1⟩
      have G4 := hid (heap_below hb1 (by rw [← HS.out]; omega) f4.out)
      have HB := hid (hb.out.trans (hb1.mono (show w.heap.size ≤ _ by rw [← HS.out]; omega)))
      clear hb1 c20 c21 c22 c23 c30 c31 c32 c33
      go_wp2_with (refine wpList_store_at rfl 22 (.tmp 4) (.tmp 26) rfl rfl rfl G4.out size22 rfl rfl rfl ?_)
      refine bodyPost_ret (results_at2 rfl rfl (setRow_heap _ _ _ _ _ _ G4.out) Try.underlying22 rfl size22 rfl) rfl ?_
      exact ⟨by rw [prV_yes HO.out]; rfl, below_setRow HB.out (by omega) _⟩
theorem flat26 : flatOf Try.prog 10 26 = some [some .i64, some .i64, some .i64] := by kernel_rfl
theorem eq26 (a b c e f g : Int) (W : World) : (Op.equalIn 10000 26 (.agg #[.int .i64 a, .int .i64 b, .int .i64 c]) (.agg #[.int .i64 e, .int .i64 f, .int .i64 g])).run Try.prog W = .ok ([a, b, c] == [e, f, g]) W := by
  rw [equal_array Try.underlying26 flat26 [.int .i64 a, .int .i64 b, .int .i64 c] [.int .i64 e, .int .i64 f, .int .i64 g] rfl rfl W]
  rw [show sameL [.int .i64 a, .int .i64 b, .int .i64 c] [.int .i64 e, .int .i64 f, .int .i64 g] = ([a, b, c] == [e, f, g]) from sameL_ints (a := [a, b, c]) (b := [e, f, g]) rfl]

/-- what a beam returns -/
def bmV (a b c d : Int) : Value := if turnB 4000000 a b c d = true then .tuple #[.agg #[.int .i64 (Quat.k0 a b c d), .int .i64 (Quat.k1 a b c d), .int .i64 (Quat.k2 a b c d)], .int .i64 (Quat.nn a b c d), .int .i64 0]
  else .tuple #[.agg #[.int .i64 0, .int .i64 0, .int .i64 0], .int .i64 0, .int .i64 46]
theorem bmV_yes {a b c d : Int} (h : turnB 4000000 a b c d = true) : bmV a b c d = .tuple #[.agg #[.int .i64 (Quat.k0 a b c d), .int .i64 (Quat.k1 a b c d), .int .i64 (Quat.k2 a b c d)], .int .i64 (Quat.nn a b c d), .int .i64 0] := by
  unfold bmV; rw [if_pos h]
theorem bmV_no {a b c d : Int} (h : turnB 4000000 a b c d = false) : bmV a b c d = .tuple #[.agg #[.int .i64 0, .int .i64 0, .int .i64 0], .int .i64 0, .int .i64 46] := by
  unfold bmV; rw [if_neg (by simp [h])]
set_option maxRecDepth 100000 in
theorem xbeam_any (a b c d : Int) (w : World) :
    Calls Try.prog 22 #[.agg #[.int .i64 a, .int .i64 b, .int .i64 c, .int .i64 d]] w
      fun r w' => r = .returned (bmV a b c d) ∧ Below w.heap.size w w' := by
  have hq := eq22 a b c d 0 0 0 0
  by_cases hz : ([a, b, c, d] == [0, 0, 0, 0]) = true
  · have HT := hid (turnB_zero (l := 4000000) hz)
    rw [hz] at hq
    clear hz
    go_enter Try.func22, Try.ntmps22
    go_wp2
    go_returns
    refine ⟨by rw [bmV_no HT.out], ?_⟩
    (repeat' (first | (with_reducible exact Below.refl _ _) | (with_reducible assumption) | (with_reducible refine Below.alloc ?_ ?_ _) | (with_reducible refine Below.drew ?_) | (with_reducible refine below_drewN ?_ _) | (with_reducible refine Below.setCell ?_ ?_ _) | (with_reducible refine below_setRow ?_ ?_ _) | go_size))
  · have hz' := Bool.eq_false_iff.2 hz
    have HT := hid (turnB_ok (l := 4000000) hz')
    rw [hz'] at hq
    clear hz hz'
    by_cases h1 : ok4 4000000 a b c d = true
    · have H1 := hid h1; clear h1
      go_enter Try.func22, Try.ntmps22
      go_wp2_with fail
      refine (within_any _ _ _ _ _ _ [a, b, c, d] _ rfl (by simp) (cells_ints _ (by repeat' (first | (refine heap_alloc_at _ _ _ ?_; (first | rfl | (simp; done) | (simp; omega))) | (refine heap_alloc_past _ _ _ _ ?_))) rfl)).mono ?_
      rintro r w' ⟨rfl, rfl⟩
      rw [show [a, b, c, d].all (inB (-4000000) 4000000) = true from H1.out]
      go_wp2_with fail
      have h2 := ok4_iff.1 H1.out
      refine (qbeam_any a b c d _ h2.1 h2.2.1 h2.2.2.1 h2.2.2.2).mono ?_
      clear h2
      rintro r w1 ⟨rfl, hb⟩
      have G2 := hid (heap_below hb (by first | (simp; done) | (simp; omega)) (by repeat' (first | (refine heap_alloc_at _ _ _ ?_; (first | rfl | (simp; done) | (simp; omega))) | (refine heap_alloc_past _ _ _ _ ?_))) : w1.heap[w.heap.size + 1]? = some (.cells #[.int .i64 0, .int .i64 0, .int .i64 0] 26))
      have HB := hid ((by refine Below.trans ?_ (hb.mono ?_); (focus ((repeat' (first | (with_reducible exact Below.refl _ _) | (with_reducible assumption) | (with_reducible refine Below.alloc ?_ ?_ _) | (with_reducible refine Below.drew ?_) | (with_reducible refine below_drewN ?_ _) | (with_reducible refine Below.setCell ?_ ?_ _) | (with_reducible refine below_setRow ?_ ?_ _) | go_size)); done)); (focus (first | (simp; done) | (simp; omega)))) : Below w.heap.size w w1)
      have hlt : w.heap.size + 1 < w1.heap.size := (Array.getElem?_eq_some_iff.1 G2.out).1
      clear hb hq
      go_wp2_with (refine wpList_store_at rfl 26 (.tmp 2) (.tmp 21) rfl rfl rfl (heap_alloc_past _ _ _ _ G2.out) size26 rfl rfl rfl ?_)
      refine bodyPost_ret (results_at3 rfl rfl (setRow_heap _ _ _ _ _ _ (heap_alloc_past _ _ _ _ G2.out)) Try.underlying26 rfl size26 rfl) rfl ?_
      refine ⟨by rw [bmV_yes (HT.out.trans H1.out)]; rfl, below_setRow (HB.out.alloc (by omega) _) (by omega) _⟩
    · have H1 := hid (Bool.eq_false_iff.2 h1); clear h1
      go_enter Try.func22, Try.ntmps22
      go_wp2_with fail
      refine (within_any _ _ _ _ _ _ [a, b, c, d] _ rfl (by simp) (cells_ints _ (by repeat' (first | (refine heap_alloc_at _ _ _ ?_; (first | rfl | (simp; done) | (simp; omega))) | (refine heap_alloc_past _ _ _ _ ?_))) rfl)).mono ?_
      rintro r w' ⟨rfl, rfl⟩
      rw [show [a, b, c, d].all (inB (-4000000) 4000000) = false from H1.out]
      go_wp2
      go_returns
      refine ⟨by rw [bmV_no (HT.out.trans H1.out)], ?_⟩
      (repeat' (first | (with_reducible exact Below.refl _ _) | (with_reducible assumption) | (with_reducible refine Below.alloc ?_ ?_ _) | (with_reducible refine Below.drew ?_) | (with_reducible refine below_drewN ?_ _) | (with_reducible refine Below.setCell ?_ ?_ _) | (with_reducible refine below_setRow ?_ ?_ _) | go_size))

theorem bounds4 {l a b c d : Int} (h : (-l ≤ a ∧ a ≤ l) ∧ (-l ≤ b ∧ b ≤ l) ∧ (-l ≤ c ∧ c ≤ l) ∧ (-l ≤ d ∧ d ≤ l)) (i : Nat) (hi : i < 4) : -l ≤ [a, b, c, d].getD i 0 ∧ [a, b, c, d].getD i 0 ≤ l := by
  match i, hi with
  | 0, _ => exact h.1
  | 1, _ => exact h.2.1
  | 2, _ => exact h.2.2.1
  | 3, _ => exact h.2.2.2
theorem turnB_bd {l a b c d : Int} (h : turnB l a b c d = true) : (-l ≤ a ∧ a ≤ l) ∧ (-l ≤ b ∧ b ≤ l) ∧ (-l ≤ c ∧ c ≤ l) ∧ (-l ≤ d ∧ d ≤ l) := by
  unfold turnB at h
  rw [Bool.and_eq_true] at h
  exact ok4_iff.1 h.1

/-- four integers as a value -/
abbrev v4 (a b c d : Int) : Value := .agg #[.int .i64 a, .int .i64 b, .int .i64 c, .int .i64 d]
theorem keepRow {B b : Nat} {W w' : World} (hb : Below B W w') (h : b < B) : w'.cell? ⟨b, 0, none⟩ = W.cell? ⟨b, 0, none⟩ ∧ w'.cell? ⟨b, 1, none⟩ = W.cell? ⟨b, 1, none⟩ ∧ w'.cell? ⟨b, 2, none⟩ = W.cell? ⟨b, 2, none⟩ ∧ w'.cell? ⟨b, 3, none⟩ = W.cell? ⟨b, 3, none⟩ :=
  ⟨hb.cell (p := ⟨b, 0, none⟩) h, hb.cell (p := ⟨b, 1, none⟩) h, hb.cell (p := ⟨b, 2, none⟩) h, hb.cell (p := ⟨b, 3, none⟩) h⟩
set_option maxRecDepth 100000 in
set_option maxHeartbeats 1600000 in
theorem rbeam_yes (a b c d : Int) (w : World) (hok : turnB 4000000 a b c d = true) :
    Calls Try.prog 23 #[.agg #[.int .i64 a, .int .i64 b, .int .i64 c, .int .i64 d]] w
      fun r w' => r = .returned (bmV a b c d) ∧ Below w.heap.size w w' := by
  have HO := hid hok; clear hok
  go_enter Try.func23, Try.ntmps23
  go_wp2_with fail
  refine (turns_any _ _ _ _ _ (by decide) _).mono ?_
  rintro r w1 ⟨rfl, hb⟩
  rw [HO.out]
  have G1 := hid (heap_below hb (by first | (simp; done) | (simp; omega)) (by repeat' (first | (refine heap_alloc_at _ _ _ ?_; (first | rfl | (simp; done) | (simp; omega))) | (refine heap_alloc_past _ _ _ _ ?_))) : w1.heap[w.heap.size]? = some (row4 a b c d))
  have G2 := hid (heap_below hb (by first | (simp; done) | (simp; omega)) (by repeat' (first | (refine heap_alloc_at _ _ _ ?_; (first | rfl | (simp; done) | (simp; omega))) | (refine heap_alloc_past _ _ _ _ ?_))) : w1.heap[w.heap.size + 1]? = some (.cells #[.int .i64 0, .int .i64 0, .int .i64 0] 26))
  have HB := hid ((by refine Below.trans ?_ (hb.mono ?_); (focus ((repeat' (first | (with_reducible exact Below.refl _ _) | (with_reducible assumption) | (with_reducible refine Below.alloc ?_ ?_ _) | (with_reducible refine Below.drew ?_) | (with_reducible refine below_drewN ?_ _) | (with_reducible refine Below.setCell ?_ ?_ _) | (with_reducible refine below_setRow ?_ ?_ _) | go_size)); done)); (focus (first | (simp; done) | (simp; omega)))) : Below w.heap.size w w1)
  have hlt : w.heap.size + 1 < w1.heap.size := (Array.getElem?_eq_some_iff.1 G2.out).1
  have hlt0 : w.heap.size < w1.heap.size := by omega
  clear hb
  have hbd := turnB_bd HO.out
  have c0 := cell_row (j := 0) G1.out
  have c1 := cell_row (j := 1) G1.out
  have c2 := cell_row (j := 2) G1.out
  have c3 := cell_row (j := 3) G1.out
  simp at c0 c1 c2 c3
  go_wp2_with fail
  refine (times_any _ _ _ _ _ _ _ _ _ (bounds4 hbd) (bounds4 (by omega))).mono ?_
  rintro r w2 ⟨rfl, hb2⟩
  have G1' := hid (heap_below hb2 (by first | (simp; done) | (simp; omega)) (heap_alloc_past _ _ _ _ G1.out))
  have G2' := hid (heap_below hb2 (by first | (simp; done) | (simp; omega)) (heap_alloc_past _ _ _ _ G2.out))
  have G5 := hid (heap_below hb2 (by first | (simp; done) | (simp; omega)) (heap_alloc_at _ _ _ rfl) : w2.heap[w1.heap.size]? = some (row4 a (-b) (-c) (-d)))
  have HB2 := hid (show Below w.heap.size w w2 by
    refine (Below.alloc HB.out (by omega) _).trans (hb2.mono ?_)
    simp; omega)
  have ix := index4_0
  clear hb2 c0 c1 c2 c3
  go_wp2
  have hlt1 : w1.heap.size < w2.heap.size := (Array.getElem?_eq_some_iff.1 G5.out).1
  have hlt2 : w.heap.size < w2.heap.size := by omega
  have hb4 := hbd
  have HM := hid (show (-4000000 ≤ Quat.m0 a b c d 0 0 0 (-1) ∧ Quat.m0 a b c d 0 0 0 (-1) ≤ 4000000) ∧ (-4000000 ≤ Quat.m1 a b c d 0 0 0 (-1) ∧ Quat.m1 a b c d 0 0 0 (-1) ≤ 4000000) ∧ (-4000000 ≤ Quat.m2 a b c d 0 0 0 (-1) ∧ Quat.m2 a b c d 0 0 0 (-1) ≤ 4000000) ∧ (-4000000 ≤ Quat.m3 a b c d 0 0 0 (-1) ∧ Quat.m3 a b c d 0 0 0 (-1) ≤ 4000000) by
    simp [Quat.m0, Quat.m1, Quat.m2, Quat.m3]; omega)
  refine gen_act (fun A0 hA => ?_)
  refine wp_region_inv (by kernel_rfl) (by kernel_rfl) (fun L A W => ∃ u28 u29 u30 u31 u32 u7, A = (((((A0.put (some 28) u28).put (some 29) u29).put (some 30) u30).put (some 31) u31).put (some 32) u32).put (some 7) u7 ∧ Below w2.heap.size w2 W ∧
    (L 0 = true → u28 = v4 a b c d) ∧ (L 1 = true → u29 = v4 0 0 0 (-1)) ∧ (L 2 = true → u30 = v4 (Quat.m0 a b c d 0 0 0 (-1)) (Quat.m1 a b c d 0 0 0 (-1)) (Quat.m2 a b c d 0 0 0 (-1)) (Quat.m3 a b c d 0 0 0 (-1))) ∧
    (L 3 = true → u31 = v4 a (-b) (-c) (-d)) ∧
    (L 4 = true → u32 = v4 (Quat.m0 (Quat.m0 a b c d 0 0 0 (-1)) (Quat.m1 a b c d 0 0 0 (-1)) (Quat.m2 a b c d 0 0 0 (-1)) (Quat.m3 a b c d 0 0 0 (-1)) a (-b) (-c) (-d)) (Quat.k0 a b c d) (Quat.k1 a b c d) (Quat.k2 a b c d)) ∧
    (L 5 = true → ∃ g, u7 = .pointer (some ⟨g, 0, none⟩) ∧ w2.heap.size ≤ g ∧ (L 6 = false → W.heap[g]? = some (row4 0 0 0 0)) ∧
      (L 6 = true → W.heap[g]? = some (row4 (Quat.m0 (Quat.m0 a b c d 0 0 0 (-1)) (Quat.m1 a b c d 0 0 0 (-1)) (Quat.m2 a b c d 0 0 0 (-1)) (Quat.m3 a b c d 0 0 0 (-1)) a (-b) (-c) (-d)) (Quat.k0 a b c d) (Quat.k1 a b c d) (Quat.k2 a b c d)))) ∧ (L 6 = true → L 0 = true ∧ L 1 = true ∧ L 2 = true ∧ L 3 = true ∧ L 4 = true ∧ L 5 = true)) ?h0 ?hJ ?hs ?hend
  case h0 => exact ⟨undef, undef, undef, undef, undef, undef, by rw [hA]; rfl, (Below.refl _ _).drew, nofun, nofun, nofun, nofun, nofun, nofun, nofun⟩
  case hJ =>
    rintro L L' hL A W ⟨u28, u29, u30, u31, u32, u7, h⟩
    rw [hL 0 (by decide), hL 1 (by decide), hL 2 (by decide), hL 3 (by decide), hL 4 (by decide), hL 5 (by decide), hL 6 (by decide)] at h
    exact ⟨u28, u29, u30, u31, u32, u7, h⟩
  case hs =>
    intro KJ hKJ0
    have hKJ := hid hKJ0; clear hKJ0
    refine ⟨?_, ?_, ?_, ?_, ?_, ?_, ?_, trivial⟩
    · rintro L hL hd A W ⟨u28, u29, u30, u31, u32, u7, rfl, hB, f0, f1, f2, f3, f4, f5, f6⟩
      rw [hA]
      go_frame
      refine wpList_load_at rfl 22 (.tmp 1) rfl rfl (heap_below hB hlt2 G1'.out) Try.underlying22 rfl size22 rfl ?_
      exact hKJ.out _ _ _ ⟨v4 a b c d, u29, u30, u31, u32, u7, (by rw [hA]; rfl), hB, fun _ => rfl, fun h => f1 (by simpa using h), fun h => f2 (by simpa using h), fun h => f3 (by simpa using h), fun h => f4 (by simpa using h), fun h => by simpa using f5 (by simpa using h), fun h => by have := f6 (by simpa using h); simp [this]⟩
    · rintro L hL hd A W ⟨u28, u29, u30, u31, u32, u7, rfl, hB, f0, f1, f2, f3, f4, f5, f6⟩
      rw [hA]
      go_frame
      refine wpList_built rfl 22 _ rfl #[.int .i64 0, .int .i64 0, .int .i64 0, .int .i64 (-1)] (by kernel_rfl) ?_
      exact hKJ.out _ _ _ ⟨u28, v4 0 0 0 (-1), u30, u31, u32, u7, (by rw [hA]; rfl), hB, fun h => f0 (by simpa using h), fun _ => rfl, fun h => f2 (by simpa using h), fun h => f3 (by simpa using h), fun h => f4 (by simpa using h), fun h => by simpa using f5 (by simpa using h), fun h => by have := f6 (by simpa using h); simp [this]⟩
    · rintro L hL hd A W ⟨u28, u29, u30, u31, u32, u7, rfl, hB, f0, f1, f2, f3, f4, f5, f6⟩
      simp [Region.binds] at hd
      obtain rfl := f0 hd.1
      obtain rfl := f1 hd.2
      have F := hid (And.intro f3 (And.intro f4 f5))
      have HL6 := hid f6
      have HB := hid hB
      clear f0 f1 f2 f3 f4 f5 f6 hB
      rw [hA]
      go_frame
      go_wp2_with fail
      refine (times_any _ _ _ _ _ _ _ _ _ (bounds4 hbd) (bounds4 (by omega))).mono ?_
      rintro r W' ⟨rfl, hb⟩
      go_wp2_with fail
      refine hKJ.out _ _ _ ⟨_, _, _, u31, u32, u7, (by rw [hA]; rfl), HB.out.trans (hb.mono HB.out.size), fun _ => rfl, fun _ => rfl, fun _ => rfl, fun h => F.out.1 (by simpa using h), fun h => F.out.2.1 (by simpa using h), fun h => ?_, fun h => by have := HL6.out (by simpa using h); simp [this]⟩
      obtain ⟨g, e, hg, z, o⟩ := F.out.2.2 (by simpa using h)
      exact ⟨g, e, hg, fun h6 => heap_still hb (z (by simpa using h6)), fun h6 => heap_still hb (o (by simpa using h6))⟩
    · rintro L hL hd A W ⟨u28, u29, u30, u31, u32, u7, rfl, hB, f0, f1, f2, f3, f4, f5, f6⟩
      rw [hA]
      go_frame
      refine wpList_load_at rfl 22 (.tmp 5) rfl rfl (heap_below hB hlt1 G5.out) Try.underlying22 rfl size22 rfl ?_
      exact hKJ.out _ _ _ ⟨u28, u29, u30, v4 a (-b) (-c) (-d), u32, u7, (by rw [hA]; rfl), hB, fun h => f0 (by simpa using h), fun h => f1 (by simpa using h), fun h => f2 (by simpa using h), fun _ => rfl, fun h => f4 (by simpa using h), fun h => by simpa using f5 (by simpa using h), fun h => by have := f6 (by simpa using h); simp [this]⟩
    · rintro L hL hd A W ⟨u28, u29, u30, u31, u32, u7, rfl, hB, f0, f1, f2, f3, f4, f5, f6⟩
      simp [Region.binds] at hd
      obtain rfl := f2 hd.1
      obtain rfl := f3 hd.2.1
      have F := hid (And.intro f0 (And.intro f1 f5))
      have HL6 := hid f6
      have HB := hid hB
      clear f0 f1 f2 f3 f4 f5 f6 hB
      rw [hA]
      go_frame
      go_wp2_with fail
      refine (times_any _ _ _ _ _ _ _ _ _ (bounds4 HM.out) (bounds4 (by omega))).mono ?_
      rintro r W' ⟨rfl, hb⟩
      rw [Quat.back_1, Quat.back_2, Quat.back_3]
      go_wp2_with fail
      refine hKJ.out _ _ _ ⟨u28, u29, _, _, _, u7, (by rw [hA]; rfl), HB.out.trans (hb.mono HB.out.size), fun h => F.out.1 (by simpa using h), fun h => F.out.2.1 (by simpa using h), fun _ => rfl, fun _ => rfl, fun _ => rfl, fun h => ?_, fun h => by have := HL6.out (by simpa using h); simp [this]⟩
      obtain ⟨g, e, hg, z, o⟩ := F.out.2.2 (by simpa using h)
      exact ⟨g, e, hg, fun h6 => heap_still hb (z (by simpa using h6)), fun h6 => heap_still hb (o (by simpa using h6))⟩
    · rintro L hL hd A W ⟨u28, u29, u30, u31, u32, u7, rfl, hB, f0, f1, f2, f3, f4, f5, f6⟩
      have F := hid (And.intro f0 (And.intro f1 (And.intro f2 (And.intro f3 f4))))
      have HL6 := hid f6
      have HB := hid hB
      clear f0 f1 f2 f3 f4 f5 f6 hB
      rw [hA]
      go_frame
      go_wp2_with fail
      refine hKJ.out _ _ _ ⟨u28, u29, u30, u31, u32, _, (by rw [hA]; rfl), HB.out.alloc HB.out.size _, fun h => F.out.1 (by simpa using h), fun h => F.out.2.1 (by simpa using h), fun h => F.out.2.2.1 (by simpa using h), fun h => F.out.2.2.2.1 (by simpa using h), fun h => F.out.2.2.2.2 (by simpa using h), fun _ => ?_, fun h => by have := HL6.out (by simpa using h); simp [this]⟩
      refine ⟨_, rfl, HB.out.size, fun _ => heap_alloc_at _ _ _ rfl, fun h6 => ?_⟩
      exact absurd ((HL6.out (by simpa using h6)).2.2.2.2.2) (by simp [hL])
    · rintro L hL hd A W ⟨u28, u29, u30, u31, u32, u7, rfl, hB, f0, f1, f2, f3, f4, f5, f6⟩
      simp [Region.binds] at hd
      obtain rfl := f4 (by simp [hd])
      obtain ⟨g, rfl, hg, z, o⟩ := f5 (by simp [hd])
      have Z := hid (z hL)
      have F := hid (And.intro f0 (And.intro f1 (And.intro f2 f3)))
      have HB := hid hB
      have HD := hid hd
      clear f0 f1 f2 f3 f4 f5 f6 hB z o hd
      rw [hA]
      go_frame
      refine wpList_store_at rfl 22 (.tmp 7) (.tmp 32) rfl rfl rfl Z.out size22 rfl rfl rfl ?_
      refine hKJ.out _ _ _ ⟨u28, u29, u30, u31, _, _, (by rw [hA]; rfl), below_setRow HB.out hg _, fun h => F.out.1 (by simpa using h), fun h => F.out.2.1 (by simpa using h), fun h => F.out.2.2.1 (by simpa using h), fun h => F.out.2.2.2 (by simpa using h), fun _ => rfl, fun _ => ⟨g, rfl, hg, fun h6 => by simp at h6, fun _ => setRow_heap _ _ _ _ _ _ Z.out⟩, fun _ => ?_⟩
      have := HD.out
      simp [this]
  case hend =>
    rintro A W ⟨u28, u29, u30, u31, u32, u7, rfl, hB, f0, f1, f2, f3, f4, f5, f6⟩
    obtain rfl := f4 rfl
    obtain ⟨g, rfl, hg, z, o⟩ := f5 rfl
    have G7 := hid (o rfl)
    have HW := hid (HB2.out.trans (hB.mono (show w.heap.size ≤ w2.heap.size by omega)))
    have G2'' := hid (heap_below hB (show w.heap.size + 1 < w2.heap.size by omega) G2'.out)
    clear f0 f1 f2 f3 f4 f5 f6 hB z o
    rw [hA]
    go_frame
    have d0 := cell_row (j := 0) G7.out
    have d1 := cell_row (j := 1) G7.out
    have d2 := cell_row (j := 2) G7.out
    have d3 := cell_row (j := 3) G7.out
    simp at d0 d1 d2 d3
    clear hA
    go_wp2_with (refine wpList_store_at rfl 26 (.tmp 2) (.tmp 39) rfl rfl rfl G2''.out size26 rfl rfl rfl ?_)
    refine bodyPost_ret (results_at3 rfl rfl (setRow_heap _ _ _ _ _ _ G2''.out) Try.underlying26 rfl size26 rfl) rfl ?_
    refine ⟨by rw [bmV_yes HO.out, ← Quat.back_n]; rfl, below_setRow HW.out (by omega) _⟩

set_option maxRecDepth 100000 in
theorem rbeam_no (a b c d : Int) (w : World) (hok : turnB 4000000 a b c d = false) :
    Calls Try.prog 23 #[.agg #[.int .i64 a, .int .i64 b, .int .i64 c, .int .i64 d]] w
      fun r w' => r = .returned (bmV a b c d) ∧ Below w.heap.size w w' := by
  have HO := hid hok; clear hok
  go_enter Try.func23, Try.ntmps23
  go_wp2_with fail
  refine (turns_any _ _ _ _ _ (by decide) _).mono ?_
  rintro r w1 ⟨rfl, hb⟩
  rw [HO.out]
  have G2 := hid (heap_below hb (by first | (simp; done) | (simp; omega)) (by repeat' (first | (refine heap_alloc_at _ _ _ ?_; (first | rfl | (simp; done) | (simp; omega))) | (refine heap_alloc_past _ _ _ _ ?_))) : w1.heap[w.heap.size + 1]? = some (.cells #[.int .i64 0, .int .i64 0, .int .i64 0] 26))
  have HB := hid ((by refine Below.trans ?_ (hb.mono ?_); (focus ((repeat' (first | (with_reducible exact Below.refl _ _) | (with_reducible assumption) | (with_reducible refine Below.alloc ?_ ?_ _) | (with_reducible refine Below.drew ?_) | (with_reducible refine below_drewN ?_ _) | (with_reducible refine Below.setCell ?_ ?_ _) | (with_reducible refine below_setRow ?_ ?_ _) | go_size)); done)); (focus (first | (simp; done) | (simp; omega)))) : Below w.heap.size w w1)
  clear hb
  go_wp2_with (refine wpList_store_at rfl 26 (.tmp 2) (.tmp 11) rfl rfl rfl G2.out size26 rfl rfl rfl ?_)
  refine bodyPost_ret (results_at3 rfl rfl (setRow_heap _ _ _ _ _ _ G2.out) Try.underlying26 rfl size26 rfl) rfl ?_
  refine ⟨by rw [bmV_no HO.out]; rfl, below_setRow HB.out (by omega) _⟩
theorem rbeam_any (a b c d : Int) (w : World) :
    Calls Try.prog 23 #[.agg #[.int .i64 a, .int .i64 b, .int .i64 c, .int .i64 d]] w
      fun r w' => r = .returned (bmV a b c d) ∧ Below w.heap.size w w' := by
  by_cases k : turnB 4000000 a b c d = true
  · exact rbeam_yes a b c d w k
  · exact rbeam_no a b c d w (Bool.eq_false_iff.2 k)

theorem awake_beam : bmV 1 1 0 0 = .tuple #[.agg #[.int .i64 0, .int .i64 2, .int .i64 0], .int .i64 2, .int .i64 0] := by
  rw [bmV_yes (by decide)]
  rfl
set_option maxRecDepth 100000 in
theorem awake_any (w : World) : Calls Try.prog 24 #[] w fun r w' => r = .returned (.bool true) ∧ Below w.heap.size w w' := by
  have hq := eq26 0 2 0 0 2 0
  rw [show ([(0 : Int), 2, 0] == [0, 2, 0]) = true from rfl] at hq
  go_enter Try.func24, Try.ntmps24
  go_wp2_with fail
  refine (xbeam_any _ _ _ _ _).mono ?_
  rintro r w1 ⟨rfl, hb⟩
  rw [awake_beam]
  go_wp2
  go_returns
  refine ⟨rfl, ?_⟩
  exact (hb.alloc (by have := hb.size; omega) _)
end Go.Proofs.Yteoikaedpgianaa
