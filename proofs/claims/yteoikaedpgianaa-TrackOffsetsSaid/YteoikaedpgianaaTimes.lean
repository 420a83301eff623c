/- Hamilton's product as the reference reckons it, by the table of the units. -/
import Derived.Test.YteoikaedpgianaaRows
import Derived.Test.YteoikaedpgianaaAid
import Derived.Test.YteoikaedpgianaaQuat
import Derived.Test.YteoikaedpgianaaCore
import Derived.Lib.SmallJoins
import Derived.BigRegion
import Derived.Laws.CopyOwn
namespace Go.Proofs.Yteoikaedpgianaa
open Go.RowKit
theorem size22 : (Try.prog.info? 22).map (·.size) = some 4 := by kernel_rfl
theorem size181 : (Try.prog.info? 181).map (·.size) = some 16 := by kernel_rfl
/-- four integers in a block -/
def row4 (x0 x1 x2 x3 : Int) : Obj := .cells #[.int .i64 x0, .int .i64 x1, .int .i64 x2, .int .i64 x3] 22
def tabU : Obj := .cells #[.int .i64 0, .int .i64 1, .int .i64 2, .int .i64 3, .int .i64 1, .int .i64 0, .int .i64 3, .int .i64 2, .int .i64 2, .int .i64 3, .int .i64 0, .int .i64 1, .int .i64 3, .int .i64 2, .int .i64 1, .int .i64 0] 181
def tabM : Obj := .cells #[.int .i64 1, .int .i64 1, .int .i64 1, .int .i64 1, .int .i64 1, .int .i64 (-1), .int .i64 1, .int .i64 (-1), .int .i64 1, .int .i64 (-1), .int .i64 (-1), .int .i64 1, .int .i64 1, .int .i64 1, .int .i64 (-1), .int .i64 (-1)] 181
def StT (p q : List Int) (n : Nat) (B : Nat) (W wr : World) : Prop :=
  wr.heap[B]? = some (row4 (Quat.acc p q n 0) (Quat.acc p q n 1) (Quat.acc p q n 2) (Quat.acc p q n 3)) ∧ Below B W wr
theorem cell_row {W : World} {b j : Nat} {C : Array Value} {t : TypeId} {fr : Nat × Nat} (h : W.heap[b]? = some (.cells C t fr)) : W.cell? ⟨b, j, none⟩ = C[j]? := by
  simp [World.cell?, h]
theorem cell_at {W wr : World} {B b j : Nat} {C : Array Value} {t : TypeId} {fr : Nat × Nat} (hb : Below B W wr) (hlt : b < B) (h : W.heap[b]? = some (.cells C t fr)) :
    wr.cell? ⟨b, j, none⟩ = C[j]? := by
  rw [hb.cell (p := ⟨b, j, none⟩) hlt]; exact cell_row h
theorem StT_step {p q : List Int} {n B j : Nat} {W wr : World} {v : Int} (h : StT p q n B W wr) (hj : Quat.un (n / 4) (n % 4) = j) (hj4 : j < 4)
    (hv : v = Quat.acc p q n j + Quat.sg (n / 4) (n % 4) * p.getD (n / 4) 0 * q.getD (n % 4) 0) : StT p q (n + 1) B W (wr.setCell ⟨B, j, none⟩ (.int .i64 v)) := by
  obtain ⟨h1, h2⟩ := h
  refine ⟨?_, h2.setCell (Nat.le_refl _) _⟩
  have e : ∀ i, Quat.acc p q (n + 1) i = if j = i then v else Quat.acc p q n i := by
    intro i
    simp only [Quat.acc, hj]
    split
    · rename_i h; subst h; rw [hv]
    · omega
  rw [Joins.block_setCell h1, e 0, e 1, e 2, e 3]
  match j, hj4 with
  | 0, _ | 1, _ | 2, _ | 3, _ => rfl
theorem StT_drew {p q : List Int} {n B : Nat} {W wr : World} (h : StT p q n B W wr) : StT p q n B W wr.drew := ⟨h.1, h.2.drew⟩
theorem StT_cell {p q : List Int} {n B j : Nat} {W wr : World} (h : StT p q n B W wr) (hj4 : j < 4) : wr.cell? ⟨B, j, none⟩ = some (.int .i64 (Quat.acc p q n j)) := by
  rw [cell_row h.1]
  match j, hj4 with
  | 0, _ | 1, _ | 2, _ | 3, _ => rfl
theorem un_lt (m k : Nat) (hm : m < 4) (hk : k < 4) : Quat.un m k < 4 := by
  have h1 : m = 0 ∨ m = 1 ∨ m = 2 ∨ m = 3 := by omega
  have h2 : k = 0 ∨ k = 1 ∨ k = 2 ∨ k = 3 := by omega
  rcases h1 with rfl | rfl | rfl | rfl <;> rcases h2 with rfl | rfl | rfl | rfl <;> decide
theorem StT_next {p q : List Int} {m k B : Nat} {W wr : World} {v x : Int} (hm : m < 4) (hk : k < 4) (h : StT p q (4 * m + k) B W wr) (hx : Quat.acc p q (4 * m + k) (Quat.un m k) = x)
    (hv : v = x + Quat.sg m k * p.getD m 0 * q.getD k 0) : StT p q (4 * m + (k + 1)) B W (wr.setCell ⟨B, Quat.un m k, none⟩ (.int .i64 v)).drew := by
  have e1 : (4 * m + k) / 4 = m := by omega
  have e2 : (4 * m + k) % 4 = k := by omega
  exact StT_drew (StT_step (n := 4 * m + k) h (by rw [e1, e2]) (un_lt m k hm hk) (by rw [e1, e2, hx]; exact hv))
theorem tab_at {wr W : World} {B b b' : Nat} (hB : Below B W wr) (h1 : b < B) (h2 : b' < B) (hU : W.heap[b]? = some tabU) (hM : W.heap[b']? = some tabM) (m k : Nat) (hm : m < 4) (hk : k < 4) :
    wr.cell? ⟨b, m * 4 + k, none⟩ = some (.int .i64 (Quat.un m k)) ∧ wr.cell? ⟨b', m * 4 + k, none⟩ = some (.int .i64 (Quat.sg m k)) := by
  rw [cell_at hB h1 hU, cell_at hB h2 hM]
  have e1 : m = 0 ∨ m = 1 ∨ m = 2 ∨ m = 3 := by omega
  have e2 : k = 0 ∨ k = 1 ∨ k = 2 ∨ k = 3 := by omega
  rcases e1 with rfl | rfl | rfl | rfl <;> rcases e2 with rfl | rfl | rfl | rfl <;> exact ⟨rfl, rfl⟩
theorem row4_at {wr W : World} {B b : Nat} {x0 x1 x2 x3 : Int} (hB : Below B W wr) (h1 : b < B) (h : W.heap[b]? = some (row4 x0 x1 x2 x3)) (k : Nat) (hk : k < 4) :
    wr.cell? ⟨b, k, none⟩ = some (.int .i64 ([x0, x1, x2, x3].getD k 0)) := by
  rw [cell_at hB h1 h]
  match k, hk with
  | 0, _ | 1, _ | 2, _ | 3, _ => rfl
set_option maxRecDepth 100000 in
set_option maxHeartbeats 1600000 in
theorem times_any (a b c d e f g h : Int) (w : World)
    (hp : ∀ i, i < 4 → -4000000 ≤ [a, b, c, d].getD i 0 ∧ [a, b, c, d].getD i 0 ≤ 4000000) (hq : ∀ i, i < 4 → -4000000 ≤ [e, f, g, h].getD i 0 ∧ [e, f, g, h].getD i 0 ≤ 4000000) :
    Calls Try.prog 75 #[.agg #[.int .i64 a, .int .i64 b, .int .i64 c, .int .i64 d], .agg #[.int .i64 e, .int .i64 f, .int .i64 g, .int .i64 h]] w
      fun r w' => r = .returned (.agg #[.int .i64 (Quat.m0 a b c d e f g h), .int .i64 (Quat.m1 a b c d e f g h), .int .i64 (Quat.m2 a b c d e f g h), .int .i64 (Quat.m3 a b c d e f g h)]) ∧ Below w.heap.size w w' := by
  have HP := hid hp; clear hp
  have HQ := hid hq; clear hq
  go_enter Try.func75, Try.ntmps75
  go_wp2_with (first | (refine wpList_store_new rfl 181 (.tmp 5) (.tmp 14) rfl rfl rfl ?_ size181 rfl rfl rfl ?_; (focus (simp; done))) | (refine wpList_store_new rfl 181 (.tmp 6) (.tmp 19) rfl rfl rfl ?_ size181 rfl rfl rfl ?_; (focus (simp; done))))
  refine gen_world (fun W hW => ?_)
  have f2 := hid (show W.heap[w.heap.size]? = some (row4 a b c d) from by rw [hW]; exact (by repeat' (first | (refine heap_alloc_at _ _ _ ?_; (first | rfl | (simp; done) | (simp; omega))) | (refine heap_alloc_past _ _ _ _ ?_))))
  have f3 := hid (show W.heap[w.heap.size + 1]? = some (row4 e f g h) from by rw [hW]; exact (by repeat' (first | (refine heap_alloc_at _ _ _ ?_; (first | rfl | (simp; done) | (simp; omega))) | (refine heap_alloc_past _ _ _ _ ?_))))
  have f4 := hid (show W.heap[w.heap.size + 1 + 1]? = some (row4 0 0 0 0) from by rw [hW]; exact (by repeat' (first | (refine heap_alloc_at _ _ _ ?_; (first | rfl | (simp; done) | (simp; omega))) | (refine heap_alloc_past _ _ _ _ ?_))))
  have f5 := hid (show W.heap[w.heap.size + 1 + 1 + 1]? = some tabU from by rw [hW]; exact (by repeat' (first | (refine heap_alloc_at _ _ _ ?_; (first | rfl | (simp; done) | (simp; omega))) | (refine heap_alloc_past _ _ _ _ ?_))))
  have f6 := hid (show W.heap[w.heap.size + 1 + 1 + 1 + 1]? = some tabM from by rw [hW]; exact (by repeat' (first | (refine heap_alloc_at _ _ _ ?_; (first | rfl | (simp; done) | (simp; omega))) | (refine heap_alloc_past _ _ _ _ ?_))))
  have f7 := hid (show W.heap[w.heap.size + 1 + 1 + 1 + 1 + 1]? = some (row4 0 0 0 0) from by rw [hW]; exact (by repeat' (first | (refine heap_alloc_at _ _ _ ?_; (first | rfl | (simp; done) | (simp; omega))) | (refine heap_alloc_past _ _ _ _ ?_))))
  have hb := hid (show Below w.heap.size w W by rw [hW]; (repeat' (first | (with_reducible exact Below.refl _ _) | (with_reducible assumption) | (with_reducible refine Below.alloc ?_ ?_ _) | (with_reducible refine Below.drew ?_) | (with_reducible refine below_drewN ?_ _) | (with_reducible refine Below.setCell ?_ ?_ _) | (with_reducible refine below_setRow ?_ ?_ _) | go_size)))
  clear hW
  go_loopw [20] (fun i wr => ∃ m : Nat, m ≤ 4 ∧ i = .int .i64 m ∧ StT [a, b, c, d] [e, f, g, h] (4 * m) (w.heap.size + 1 + 1 + 1 + 1 + 1) W wr) (fun i _ => 4 - (intOf i).toNat)
  case atStart => exact ⟨0, by omega, rfl, f7.out, Below.refl _ _⟩
  case round =>
    obtain ⟨m, hm, rfl, hst⟩ := hrel
    have HS := hid hst; clear hst
    by_cases hlt : m < 4
    · obtain ⟨wo, rfl⟩ : ∃ wo : World, wo = wr := ⟨_, rfl⟩
      go_wp2
      go_loopw [23] (fun i wr => ∃ k : Nat, k ≤ 4 ∧ i = .int .i64 k ∧ StT [a, b, c, d] [e, f, g, h] (4 * m + k) (w.heap.size + 1 + 1 + 1 + 1 + 1) W wr) (fun i _ => 4 - (intOf i).toNat)
      case atStart => exact ⟨0, by omega, rfl, HS.out⟩
      case round =>
        clear HS
        obtain ⟨k, hk, rfl, hst⟩ := hrel
        have HS := hid hst; clear hst
        by_cases hlt2 : k < 4
        · have hB := (HS.out).2
          obtain ⟨c5, c6⟩ := tab_at hB (by omega) (by omega) f5.out f6.out m k hlt hlt2
          have c2 := row4_at hB (by omega) f2.out m hlt
          have c3 := row4_at hB (by omega) f3.out k hlt2
          have c7 := StT_cell HS.out (un_lt m k hlt hlt2)
          have z7 := Joins.unfrozen_of_block (HS.out).1 (Quat.un m k)
          have hbd := Quat.acc_bd (M := 4000000 * 4000000) (by omega) (fun i k hi hk => Quat.mul_bd (HP.out i hi) (HQ.out k hk)) (Quat.un m k) (4 * m + k) (by omega)
          have hbx : -256000000000000 ≤ Quat.acc [a, b, c, d] [e, f, g, h] (4 * m + k) (Quat.un m k) ∧ Quat.acc [a, b, c, d] [e, f, g, h] (4 * m + k) (Quat.un m k) ≤ 256000000000000 := by omega
          have hpm := HP.out m hlt
          have hqk := HQ.out k hlt2
          have hpq := Quat.mul_bd hpm hqk
          have HF := fun v x => hid (@StT_next [a, b, c, d] [e, f, g, h] m k (w.heap.size + 1 + 1 + 1 + 1 + 1) W wr v x hlt hlt2 HS.out)
          have hu := un_lt m k hlt hlt2
          have hs := Quat.sg_one m k hlt hlt2
          generalize hx : Quat.acc [a, b, c, d] [e, f, g, h] (4 * m + k) (Quat.un m k) = x at *
          have HX := hid hx; clear hx hbd hB
          generalize [a, b, c, d].getD m 0 = pm at *
          generalize [e, f, g, h].getD k 0 = qk at *
          generalize Quat.un m k = u at *
          generalize Quat.sg m k = s at *
          have hpn : -16000000000000 ≤ -pm * qk ∧ -pm * qk ≤ 16000000000000 := by rw [Int.neg_mul]; omega
          rcases hs with rfl | rfl
          · go_wp2
            go_region
            go_wp2
            go_roundw
            case rel => exact ⟨_, by omega, by go_num, (HF _ _).out rfl (by rw [Int.one_mul])⟩
            case measure => simp [intOf]; omega
          · go_wp2
            go_region
            go_wp2
            go_roundw
            case rel => exact ⟨_, by omega, by go_num, (HF _ _).out rfl (by rw [show (-1 : Int) * pm = -pm from by omega])⟩
            case measure => simp [intOf]; omega
        · have : k = 4 := by omega
          subst this
          go_wp2
          go_roundw
          case rel => exact ⟨m + 1, by omega, by go_num, HS.out⟩
          case measure => simp [intOf]; omega
    · have : m = 4 := by omega
      subst this
      have hB := HS.out.2
      have c70 := StT_cell (j := 0) HS.out (by omega)
      have c71 := StT_cell (j := 1) HS.out (by omega)
      have c72 := StT_cell (j := 2) HS.out (by omega)
      have c73 := StT_cell (j := 3) HS.out (by omega)
      have g4 := heap_below hB (by omega) f4.out
      have G4 := hid g4
      have HE := hid (Quat.acc_16 a b c d e f g h)
      have HB := hid ((hb.out).trans (hB.mono (show w.heap.size ≤ _ by omega)))
      clear g4 hB
      rw [HE.out.1] at c70
      rw [HE.out.2.1] at c71
      rw [HE.out.2.2.1] at c72
      rw [HE.out.2.2.2] at c73
      go_wp2_with (refine wpList_store_at rfl 22 (.tmp 4) (.tmp 50) rfl rfl rfl G4.out size22 rfl rfl rfl ?_)
      refine bodyPost_ret (results_at1 rfl rfl (setRow_heap _ _ _ _ _ _ G4.out) Try.underlying22 rfl size22 rfl) rfl ?_
      exact ⟨rfl, below_setRow HB.out (by omega) _⟩
end Go.Proofs.Yteoikaedpgianaa
