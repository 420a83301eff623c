/- Products and beams of quaternions: what the track package and its reference return. -/
import Derived.Test.YteoikaedpgianaaRows
import Derived.Test.YteoikaedpgianaaAid
import Derived.Test.YteoikaedpgianaaQuat
import Derived.Test.YteoikaedpgianaaCore
import Derived.Test.YteoikaedpgianaaTimes
namespace Go.Proofs.Yteoikaedpgianaa
open Go.RowKit
/-- four integers within a limit -/
def ok4 (l a b c d : Int) : Bool := [a, b, c, d].all (inB (-l) l)
theorem ok4_iff {l a b c d : Int} : ok4 l a b c d = true ↔ (-l ≤ a ∧ a ≤ l) ∧ (-l ≤ b ∧ b ≤ l) ∧ (-l ≤ c ∧ c ≤ l) ∧ (-l ≤ d ∧ d ≤ l) := by
  simp [ok4, inB]

set_option maxRecDepth 100000 in
set_option maxHeartbeats 800000 in
theorem qproduct_any (a b c d e f g h : Int) (w : World) (hp : ok4 1000 a b c d = true) (hq : ok4 1000 e f g h = true) :
    Calls Try.prog 73 #[.agg #[.int .i64 a, .int .i64 b, .int .i64 c, .int .i64 d], .agg #[.int .i64 e, .int .i64 f, .int .i64 g, .int .i64 h]] w
      fun r w' => r = .returned (.agg #[.int .i64 (Quat.m0 a b c d e f g h), .int .i64 (Quat.m1 a b c d e f g h), .int .i64 (Quat.m2 a b c d e f g h), .int .i64 (Quat.m3 a b c d e f g h)]) ∧ Below w.heap.size w w' := by
  obtain ⟨ha, hb, hc, hd⟩ := ok4_iff.1 hp
  obtain ⟨he, hf, hg, hh⟩ := ok4_iff.1 hq
  clear hp hq
  have hae := Quat.mul_bd ha he
  have haf := Quat.mul_bd ha hf
  have hag := Quat.mul_bd ha hg
  have hah := Quat.mul_bd ha hh
  have hbe := Quat.mul_bd hb he
  have hbf := Quat.mul_bd hb hf
  have hbg := Quat.mul_bd hb hg
  have hbh := Quat.mul_bd hb hh
  have hce := Quat.mul_bd hc he
  have hcf := Quat.mul_bd hc hf
  have hcg := Quat.mul_bd hc hg
  have hch := Quat.mul_bd hc hh
  have hde := Quat.mul_bd hd he
  have hdf := Quat.mul_bd hd hf
  have hdg := Quat.mul_bd hd hg
  have hdh := Quat.mul_bd hd hh
  clear ha hb hc hd he hf hg hh
  go_enter Try.func73, Try.ntmps73
  go_wp2
  go_quiet (fail)
  go_wp2
  go_quiet (fail)
  go_wp2
  go_returns
  refine ⟨rfl, ?_⟩
  (repeat' (first | (with_reducible exact Below.refl _ _) | (with_reducible assumption) | (with_reducible refine Below.alloc ?_ ?_ _) | (with_reducible refine Below.drew ?_) | (with_reducible refine below_drewN ?_ _) | (with_reducible refine Below.setCell ?_ ?_ _) | (with_reducible refine below_setRow ?_ ?_ _) | go_size))

set_option maxRecDepth 100000 in
set_option maxHeartbeats 800000 in
theorem qbeam_any (W X Y Z : Int) (w : World) (ha : -4000000 ≤ W ∧ W ≤ 4000000) (hb : -4000000 ≤ X ∧ X ≤ 4000000) (hc : -4000000 ≤ Y ∧ Y ≤ 4000000) (hd : -4000000 ≤ Z ∧ Z ≤ 4000000) :
    Calls Try.prog 76 #[.agg #[.int .i64 W, .int .i64 X, .int .i64 Y, .int .i64 Z]] w
      fun r w' => r = .returned (.tuple #[.agg #[.int .i64 (Quat.k0 W X Y Z), .int .i64 (Quat.k1 W X Y Z), .int .i64 (Quat.k2 W X Y Z)], .int .i64 (Quat.nn W X Y Z)]) ∧ Below w.heap.size w w' := by
  have h1 := Quat.mul_bd ha ha
  have h2 := Quat.mul_bd ha hb
  have h3 := Quat.mul_bd ha hc
  have h4 := Quat.mul_bd ha hd
  have h5 := Quat.mul_bd hb hb
  have h6 := Quat.mul_bd hb hc
  have h7 := Quat.mul_bd hb hd
  have h8 := Quat.mul_bd hc hc
  have h9 := Quat.mul_bd hc hd
  have h10 := Quat.mul_bd hd hd
  clear ha hb hc hd
  go_enter Try.func76, Try.ntmps76
  go_wp2
  go_quiet (fail)
  go_wp2
  go_returns
  refine ⟨rfl, ?_⟩
  (repeat' (first | (with_reducible exact Below.refl _ _) | (with_reducible assumption) | (with_reducible refine Below.alloc ?_ ?_ _) | (with_reducible refine Below.drew ?_) | (with_reducible refine below_drewN ?_ _) | (with_reducible refine Below.setCell ?_ ?_ _) | (with_reducible refine below_setRow ?_ ?_ _) | go_size))

/-- both quaternions are within the limit of a product -/
def okP (a b c d e f g h : Int) : Bool := ok4 1000 a b c d && ok4 1000 e f g h

theorem product_no (a b c d e f g h : Int) (w : World) (hok : okP a b c d e f g h = false) :
    Calls Try.prog 20 #[.agg #[.int .i64 a, .int .i64 b, .int .i64 c, .int .i64 d], .agg #[.int .i64 e, .int .i64 f, .int .i64 g, .int .i64 h]] w
      fun r w' => r = .returned (.tuple #[.agg #[.int .i64 0, .int .i64 0, .int .i64 0, .int .i64 0], .int .i64 46]) ∧ Below w.heap.size w w' := by
  have HO := hid hok; clear hok
  by_cases h1 : ok4 1000 a b c d = true
  · have h2 : ok4 1000 e f g h = false := by have := HO.out; unfold okP at this; rw [h1] at this; simpa using this
    have H1 := hid h1; clear h1
    have H2 := hid h2; clear h2
    go_enter Try.func20, Try.ntmps20
    go_wp2_with fail
    refine (within_any _ _ _ _ _ _ [a, b, c, d] _ rfl (by simp) (cells_ints _ (by repeat' (first | (refine heap_alloc_at _ _ _ ?_; (first | rfl | (simp; done) | (simp; omega))) | (refine heap_alloc_past _ _ _ _ ?_))) rfl)).mono ?_
    rintro r w' ⟨rfl, rfl⟩
    rw [show [a, b, c, d].all (inB (-1000) 1000) = true from H1.out]
    go_wp2_with fail
    refine (within_any _ _ _ _ _ _ [e, f, g, h] _ rfl (by simp) (cells_ints _ (by repeat' (first | (refine heap_alloc_at _ _ _ ?_; (first | rfl | (simp; done) | (simp; omega))) | (refine heap_alloc_past _ _ _ _ ?_))) rfl)).mono ?_
    rintro r w' ⟨rfl, rfl⟩
    rw [show [e, f, g, h].all (inB (-1000) 1000) = false from H2.out]
    go_wp2_with fail
    go_returns
    refine ⟨rfl, ?_⟩
    (repeat' (first | (with_reducible exact Below.refl _ _) | (with_reducible assumption) | (with_reducible refine Below.alloc ?_ ?_ _) | (with_reducible refine Below.drew ?_) | (with_reducible refine below_drewN ?_ _) | (with_reducible refine Below.setCell ?_ ?_ _) | (with_reducible refine below_setRow ?_ ?_ _) | go_size))
  · have H1 := hid (Bool.eq_false_iff.2 h1); clear h1
    go_enter Try.func20, Try.ntmps20
    go_wp2_with fail
    refine (within_any _ _ _ _ _ _ [a, b, c, d] _ rfl (by simp) (cells_ints _ (by repeat' (first | (refine heap_alloc_at _ _ _ ?_; (first | rfl | (simp; done) | (simp; omega))) | (refine heap_alloc_past _ _ _ _ ?_))) rfl)).mono ?_
    rintro r w' ⟨rfl, rfl⟩
    rw [show [a, b, c, d].all (inB (-1000) 1000) = false from H1.out]
    go_wp2_with fail
    go_returns
    refine ⟨rfl, ?_⟩
    (repeat' (first | (with_reducible exact Below.refl _ _) | (with_reducible assumption) | (with_reducible refine Below.alloc ?_ ?_ _) | (with_reducible refine Below.drew ?_) | (with_reducible refine below_drewN ?_ _) | (with_reducible refine Below.setCell ?_ ?_ _) | (with_reducible refine below_setRow ?_ ?_ _) | go_size))

theorem product_yes (a b c d e f g h : Int) (w : World) (hok : okP a b c d e f g h = true) :
    Calls Try.prog 20 #[.agg #[.int .i64 a, .int .i64 b, .int .i64 c, .int .i64 d], .agg #[.int .i64 e, .int .i64 f, .int .i64 g, .int .i64 h]] w
      fun r w' => r = .returned (.tuple #[.agg #[.int .i64 (Quat.m0 a b c d e f g h), .int .i64 (Quat.m1 a b c d e f g h), .int .i64 (Quat.m2 a b c d e f g h), .int .i64 (Quat.m3 a b c d e f g h)], .int .i64 0]) ∧ Below w.heap.size w w' := by
  unfold okP at hok
  rw [Bool.and_eq_true] at hok
  obtain ⟨h1, h2⟩ := hok
  have H1 := hid h1; clear h1
  have H2 := hid h2; clear h2
  go_enter Try.func20, Try.ntmps20
  go_wp2_with fail
  refine (within_any _ _ _ _ _ _ [a, b, c, d] _ rfl (by simp) (cells_ints _ (by repeat' (first | (refine heap_alloc_at _ _ _ ?_; (first | rfl | (simp; done) | (simp; omega))) | (refine heap_alloc_past _ _ _ _ ?_))) rfl)).mono ?_
  rintro r w' ⟨rfl, rfl⟩
  rw [show [a, b, c, d].all (inB (-1000) 1000) = true from H1.out]
  go_wp2_with fail
  refine (within_any _ _ _ _ _ _ [e, f, g, h] _ rfl (by simp) (cells_ints _ (by repeat' (first | (refine heap_alloc_at _ _ _ ?_; (first | rfl | (simp; done) | (simp; omega))) | (refine heap_alloc_past _ _ _ _ ?_))) rfl)).mono ?_
  rintro r w' ⟨rfl, rfl⟩
  rw [show [e, f, g, h].all (inB (-1000) 1000) = true from H2.out]
  go_wp2_with fail
  refine (qproduct_any a b c d e f g h _ H1.out H2.out).mono ?_
  rintro r w1 ⟨rfl, hb⟩
  have G4 := hid (heap_below hb (by first | (simp; done) | (simp; omega)) (by repeat' (first | (refine heap_alloc_at _ _ _ ?_; (first | rfl | (simp; done) | (simp; omega))) | (refine heap_alloc_past _ _ _ _ ?_))) : w1.heap[w.heap.size + 1 + 1]? = some (row4 0 0 0 0))
  have HB := hid ((by refine Below.trans ?_ (hb.mono ?_); (focus ((repeat' (first | (with_reducible exact Below.refl _ _) | (with_reducible assumption) | (with_reducible refine Below.alloc ?_ ?_ _) | (with_reducible refine Below.drew ?_) | (with_reducible refine below_drewN ?_ _) | (with_reducible refine Below.setCell ?_ ?_ _) | (with_reducible refine below_setRow ?_ ?_ _) | go_size)); done)); (focus (first | (simp; done) | (simp; omega)))) : Below w.heap.size w w1)
  clear hb
  go_wp2_with (refine wpList_store_at rfl 22 (.tmp 4) (.tmp 17) rfl rfl rfl G4.out size22 rfl rfl rfl ?_)
  refine bodyPost_ret (results_at2 rfl rfl (setRow_heap _ _ _ _ _ _ G4.out) Try.underlying22 rfl size22 rfl) rfl ?_
  exact ⟨rfl, below_setRow HB.out (by omega) _⟩

theorem ok4_getD {l a b c d : Int} (h : ok4 l a b c d = true) (i : Nat) (hi : i < 4) : -l ≤ [a, b, c, d].getD i 0 ∧ [a, b, c, d].getD i 0 ≤ l := by
  obtain ⟨h0, h1, h2, h3⟩ := ok4_iff.1 h
  match i, hi with
  | 0, _ => exact h0
  | 1, _ => exact h1
  | 2, _ => exact h2
  | 3, _ => exact h3
theorem okP_of {a b c d e f g h : Int} (h1 : ([a, b, c, d].take 4).all (inB (-1000) 1000) = true) (h2 : ([e, f, g, h].take 4).all (inB (-1000) 1000) = true) : okP a b c d e f g h = true := by
  simp only [List.take_succ_cons, List.take_zero] at h1 h2
  unfold okP ok4; rw [h1, h2]; rfl
theorem okP_no1 {a b c d e f g h : Int} (h1 : [a, b, c, d].all (inB (-1000) 1000) = false) : okP a b c d e f g h = false := by
  unfold okP ok4; rw [h1]; rfl
theorem okP_no2 {a b c d e f g h : Int} (h1 : [e, f, g, h].all (inB (-1000) 1000) = false) : okP a b c d e f g h = false := by
  unfold okP ok4; rw [h1, Bool.and_false]

/-- what a product returns -/
def prE (a b c d e f g h : Int) : Int := if okP a b c d e f g h = true then 0 else 46
def pr0 (a b c d e f g h : Int) : Int := if okP a b c d e f g h = true then Quat.m0 a b c d e f g h else 0
def pr1 (a b c d e f g h : Int) : Int := if okP a b c d e f g h = true then Quat.m1 a b c d e f g h else 0
def pr2 (a b c d e f g h : Int) : Int := if okP a b c d e f g h = true then Quat.m2 a b c d e f g h else 0
def pr3 (a b c d e f g h : Int) : Int := if okP a b c d e f g h = true then Quat.m3 a b c d e f g h else 0
def prV (a b c d e f g h : Int) : Value := .tuple #[.agg #[.int .i64 (pr0 a b c d e f g h), .int .i64 (pr1 a b c d e f g h), .int .i64 (pr2 a b c d e f g h), .int .i64 (pr3 a b c d e f g h)], .int .i64 (prE a b c d e f g h)]
theorem prV_yes {a b c d e f g h : Int} (k : okP a b c d e f g h = true) : prV a b c d e f g h = .tuple #[.agg #[.int .i64 (Quat.m0 a b c d e f g h), .int .i64 (Quat.m1 a b c d e f g h), .int .i64 (Quat.m2 a b c d e f g h), .int .i64 (Quat.m3 a b c d e f g h)], .int .i64 0] := by
  simp [prV, pr0, pr1, pr2, pr3, prE, k]
theorem prV_no {a b c d e f g h : Int} (k : okP a b c d e f g h = false) : prV a b c d e f g h = .tuple #[.agg #[.int .i64 0, .int .i64 0, .int .i64 0, .int .i64 0], .int .i64 46] := by
  simp [prV, pr0, pr1, pr2, pr3, prE, k]

theorem product_any (a b c d e f g h : Int) (w : World) :
    Calls Try.prog 20 #[.agg #[.int .i64 a, .int .i64 b, .int .i64 c, .int .i64 d], .agg #[.int .i64 e, .int .i64 f, .int .i64 g, .int .i64 h]] w
      fun r w' => r = .returned (prV a b c d e f g h) ∧ Below w.heap.size w w' := by
  by_cases k : okP a b c d e f g h = true
  · rw [prV_yes k]; exact product_yes a b c d e f g h w k
  · rw [prV_no (Bool.eq_false_iff.2 k)]; exact product_no a b c d e f g h w (Bool.eq_false_iff.2 k)

set_option maxRecDepth 100000 in
set_option maxHeartbeats 800000 in
theorem rproduct_any (a b c d e f g h : Int) (w : World) :
    Calls Try.prog 21 #[.agg #[.int .i64 a, .int .i64 b, .int .i64 c, .int .i64 d], .agg #[.int .i64 e, .int .i64 f, .int .i64 g, .int .i64 h]] w
      fun r w' => r = .returned (prV a b c d e f g h) ∧ Below w.heap.size w w' := by
  go_enter Try.func21, Try.ntmps21
  go_wp2
  refine gen_world (fun W hW => ?_)
  have f2 := hid (show W.heap[w.heap.size]? = some (row4 a b c d) from by rw [hW]; exact (by repeat' (first | (refine heap_alloc_at _ _ _ ?_; (first | rfl | (simp; done) | (simp; omega))) | (refine heap_alloc_past _ _ _ _ ?_))))
  have f3 := hid (show W.heap[w.heap.size + 1]? = some (row4 e f g h) from by rw [hW]; exact (by repeat' (first | (refine heap_alloc_at _ _ _ ?_; (first | rfl | (simp; done) | (simp; omega))) | (refine heap_alloc_past _ _ _ _ ?_))))
  have f4 := hid (show W.heap[w.heap.size + 1 + 1]? = some (row4 0 0 0 0) from by rw [hW]; exact (by repeat' (first | (refine heap_alloc_at _ _ _ ?_; (first | rfl | (simp; done) | (simp; omega))) | (refine heap_alloc_past _ _ _ _ ?_))))
  have hb := hid (show Below w.heap.size w W by rw [hW]; (repeat' (first | (with_reducible exact Below.refl _ _) | (with_reducible assumption) | (with_reducible refine Below.alloc ?_ ?_ _) | (with_reducible refine Below.drew ?_) | (with_reducible refine below_drewN ?_ _) | (with_reducible refine Below.setCell ?_ ?_ _) | (with_reducible refine below_setRow ?_ ?_ _) | go_size)))
  have hs := (show w.heap.size + 1 + 1 + 1 = W.heap.size by rw [hW]; simp)
  have HS := hid hs
  clear hW hs
  go_loop [7] (fun i => ∃ k : Nat, k ≤ 4 ∧ i = .int .i64 k ∧ ([a, b, c, d].take k).all (inB (-1000) 1000) = true ∧ ([e, f, g, h].take k).all (inB (-1000) 1000) = true) (fun i => 4 - (intOf i).toNat)
  case atStart => exact ⟨0, by omega, rfl, rfl, rfl⟩
  case round =>
    obtain ⟨k, hk, rfl, hall, hall2⟩ := hrel
    have HA := hid hall; clear hall
    have HA2 := hid hall2; clear hall2
    by_cases hlt : k < 4
    · have c2 := row4_at (Below.refl (w.heap.size + 1 + 1 + 1) W) (by omega) f2.out k hlt
      have c3 := row4_at (Below.refl (w.heap.size + 1 + 1 + 1) W) (by omega) f3.out k hlt
      have hs1 := hid (inB_step (zs := [a, b, c, d]) hlt HA.out)
      have hs2 := hid (inB_step (zs := [e, f, g, h]) hlt HA2.out)
      have HST := hid (@inB_stop [a, b, c, d] (inB (-1000) 1000) k hlt)
      have HST2 := hid (@inB_stop [e, f, g, h] (inB (-1000) 1000) k hlt)
      generalize [a, b, c, d].getD k 0 = x at *
      generalize [e, f, g, h].getD k 0 = y at *
      go_wp2_with fail
      refine (from_any _ _ _ _).mono ?_
      rintro r w' ⟨rfl, rfl⟩
      by_cases k1 : inB (-1000) 1000 x = true
      · have K1 := hid k1; clear k1
        rw [K1.out]
        go_wp2_with fail
        refine (from_any _ _ _ _).mono ?_
        rintro r w' ⟨rfl, rfl⟩
        by_cases k2 : inB (-1000) 1000 y = true
        · have K2 := hid k2; clear k2
          rw [K2.out]
          go_wp2_with fail
          go_round
          case rel => exact ⟨k + 1, by omega, by go_num, by rw [hs1.out]; exact K1.out, by rw [hs2.out]; exact K2.out⟩
          case measure => simp [intOf]; omega
        · have K2 := hid (Bool.eq_false_iff.2 k2); clear k2
          rw [K2.out]
          go_wp2_with (refine wpList_store_at rfl 22 (.tmp 4) (.tmp 22) rfl rfl rfl f4.out size22 rfl rfl rfl ?_)
          refine bodyPost_ret (results_at2 rfl rfl (setRow_heap _ _ _ _ _ _ f4.out) Try.underlying22 rfl size22 rfl) rfl ?_
          exact ⟨by rw [prV_no (okP_no2 (HST2.out K2.out))]; rfl, below_setRow hb.out (by omega) _⟩
      · have K1 := hid (Bool.eq_false_iff.2 k1); clear k1
        rw [K1.out]
        go_wp2_with (refine wpList_store_at rfl 22 (.tmp 4) (.tmp 22) rfl rfl rfl f4.out size22 rfl rfl rfl ?_)
        refine bodyPost_ret (results_at2 rfl rfl (setRow_heap _ _ _ _ _ _ f4.out) Try.underlying22 rfl size22 rfl) rfl ?_
        exact ⟨by rw [prV_no (okP_no1 (HST.out K1.out))]; rfl, below_setRow hb.out (by omega) _⟩
    · have : k = 4 := by omega
      subst this
      have HO := hid (okP_of HA.out HA2.out)
      have h1 := HO.out
      unfold okP at h1
      rw [Bool.and_eq_true] at h1
      have B1 := hid (fun i hi => (⟨by have := (ok4_getD h1.1 i hi).1; omega, by have := (ok4_getD h1.1 i hi).2; omega⟩ : -4000000 ≤ [a, b, c, d].getD i 0 ∧ [a, b, c, d].getD i 0 ≤ 4000000))
      have B2 := hid (fun i hi => (⟨by have := (ok4_getD h1.2 i hi).1; omega, by have := (ok4_getD h1.2 i hi).2; omega⟩ : -4000000 ≤ [e, f, g, h].getD i 0 ∧ [e, f, g, h].getD i 0 ≤ 4000000))
      clear h1
      have c20 := row4_at (Below.refl (w.heap.size + 1 + 1 + 1) W) (by omega) f2.out 0 (by omega)
      have c21 := row4_at (Below.refl (w.heap.size + 1 + 1 + 1) W) (by omega) f2.out 1 (by omega)
      have c22 := row4_at (Below.refl (w.heap.size + 1 + 1 + 1) W) (by omega) f2.out 2 (by omega)
      have c23 := row4_at (Below.refl (w.heap.size + 1 + 1 + 1) W) (by omega) f2.out 3 (by omega)
      have c30 := row4_at (Below.refl (w.heap.size + 1 + 1 + 1) W) (by omega) f3.out 0 (by omega)
      have c31 := row4_at (Below.refl (w.heap.size + 1 + 1 + 1) W) (by omega) f3.out 1 (by omega)
      have c32 := row4_at (Below.refl (w.heap.size + 1 + 1 + 1) W) (by omega) f3.out 2 (by omega)
      have c33 := row4_at (Below.refl (w.heap.size + 1 + 1 + 1) W) (by omega) f3.out 3 (by omega)
      go_wp2_with fail
      refine (times_any a b c d e f g h _ B1.out B2.out).mono ?_
      rintro r w1 ⟨rfl, hb1⟩
      have G4 := hid (heap_below hb1 (by rw [← HS.out]; omega) f4.out)
      have HB := hid (hb.out.trans (hb1.mono (show w.heap.size ≤ _ by rw [← HS.out]; omega)))
      clear hb1 c20 c21 c22 c23 c30 c31 c32 c33
      go_wp2_with (refine wpList_store_at rfl 22 (.tmp 4) (.tmp 26) rfl rfl rfl G4.out size22 rfl rfl rfl ?_)
      refine bodyPost_ret (results_at2 rfl rfl (setRow_heap _ _ _ _ _ _ G4.out) Try.underlying22 rfl size22 rfl) rfl ?_
      exact ⟨by rw [prV_yes HO.out]; rfl, below_setRow HB.out (by omega) _⟩
end Go.Proofs.Yteoikaedpgianaa
