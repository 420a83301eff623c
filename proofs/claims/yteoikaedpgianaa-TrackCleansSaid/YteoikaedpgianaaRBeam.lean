/- Beams of quaternions, and the sanity check of the laws. -/
import Derived.Test.YteoikaedpgianaaRProd
import Derived.Test.YteoikaedpgianaaRFlat
import Derived.Test.YteoikaedpgianaaRReg
namespace Go.Proofs.Yteoikaedpgianaa
open Go.RowKit
theorem flat22 : flatOf Try.prog 10 22 = some [some .i64, some .i64, some .i64, some .i64] := by kernel_rfl
theorem flat26 : flatOf Try.prog 10 26 = some [some .i64, some .i64, some .i64] := by kernel_rfl
theorem size26 : (Try.prog.info? 26).map (·.size) = some 3 := by kernel_rfl
theorem eq22 (a b c d e f g h : Int) (W : World) : (Op.equalIn 10000 22 (.agg #[.int .i64 a, .int .i64 b, .int .i64 c, .int .i64 d]) (.agg #[.int .i64 e, .int .i64 f, .int .i64 g, .int .i64 h])).run Try.prog W = .ok ([a, b, c, d] == [e, f, g, h]) W := by
  rw [equal_array Try.underlying22 flat22 [.int .i64 a, .int .i64 b, .int .i64 c, .int .i64 d] [.int .i64 e, .int .i64 f, .int .i64 g, .int .i64 h] rfl rfl W]
  rw [show sameL [.int .i64 a, .int .i64 b, .int .i64 c, .int .i64 d] [.int .i64 e, .int .i64 f, .int .i64 g, .int .i64 h] = ([a, b, c, d] == [e, f, g, h]) from sameL_ints (a := [a, b, c, d]) (b := [e, f, g, h]) rfl]
theorem eq26 (a b c e f g : Int) (W : World) : (Op.equalIn 10000 26 (.agg #[.int .i64 a, .int .i64 b, .int .i64 c]) (.agg #[.int .i64 e, .int .i64 f, .int .i64 g])).run Try.prog W = .ok ([a, b, c] == [e, f, g]) W := by
  rw [equal_array Try.underlying26 flat26 [.int .i64 a, .int .i64 b, .int .i64 c] [.int .i64 e, .int .i64 f, .int .i64 g] rfl rfl W]
  rw [show sameL [.int .i64 a, .int .i64 b, .int .i64 c] [.int .i64 e, .int .i64 f, .int .i64 g] = ([a, b, c] == [e, f, g]) from sameL_ints (a := [a, b, c]) (b := [e, f, g]) rfl]

/-- what a beam returns -/
def bmV (a b c d : Int) : Value := if turnB 4000000 a b c d = true then .tuple #[.agg #[.int .i64 (Quat.k0 a b c d), .int .i64 (Quat.k1 a b c d), .int .i64 (Quat.k2 a b c d)], .int .i64 (Quat.nn a b c d), .int .i64 0]
  else .tuple #[.agg #[.int .i64 0, .int .i64 0, .int .i64 0], .int .i64 0, .int .i64 46]
theorem bmV_yes {a b c d : Int} (h : turnB 4000000 a b c d = true) : bmV a b c d = .tuple #[.agg #[.int .i64 (Quat.k0 a b c d), .int .i64 (Quat.k1 a b c d), .int .i64 (Quat.k2 a b c d)], .int .i64 (Quat.nn a b c d), .int .i64 0] := by
  unfold bmV; rw [if_pos h]
theorem bmV_no {a b c d : Int} (h : turnB 4000000 a b c d = false) : bmV a b c d = .tuple #[.agg #[.int .i64 0, .int .i64 0, .int .i64 0], .int .i64 0, .int .i64 46] := by
  unfold bmV; rw [if_neg (by simp [h])]
theorem nz_any {a b c d : Int} : [a, b, c, d].any nz = !([a, b, c, d] == [0, 0, 0, 0]) := by
  simp [nz]
theorem turnB_zero {l a b c d : Int} (h : ([a, b, c, d] == [0, 0, 0, 0]) = true) : turnB l a b c d = false := by
  unfold turnB; rw [nz_any, h, Bool.not_true, Bool.and_false]
theorem turnB_ok {l a b c d : Int} (h : ([a, b, c, d] == [0, 0, 0, 0]) = false) : turnB l a b c d = ok4 l a b c d := by
  unfold turnB ok4; rw [nz_any, h, Bool.not_false, Bool.and_true]

set_option maxRecDepth 100000 in
theorem xbeam_any (a b c d : Int) (w : World) :
    Calls Try.prog 22 #[.agg #[.int .i64 a, .int .i64 b, .int .i64 c, .int .i64 d]] w
      fun r w' => r = .returned (bmV a b c d) ∧ Below w.heap.size w w' := by
  have hq := eq22 a b c d 0 0 0 0
  by_cases hz : ([a, b, c, d] == [0, 0, 0, 0]) = true
  · have HT := hid (turnB_zero (l := 4000000) hz)
    rw [hz] at hq
    clear hz
    go_enter Try.func22, Try.ntmps22
    go_wp2
    go_returns
    refine ⟨by rw [bmV_no HT.out], ?_⟩
    (repeat' (first | (with_reducible exact Below.refl _ _) | (with_reducible assumption) | (with_reducible refine Below.alloc ?_ ?_ _) | (with_reducible refine Below.drew ?_) | (with_reducible refine below_drewN ?_ _) | (with_reducible refine Below.setCell ?_ ?_ _) | (with_reducible refine below_setRow ?_ ?_ _) | go_size))
  · have hz' := Bool.eq_false_iff.2 hz
    have HT := hid (turnB_ok (l := 4000000) hz')
    rw [hz'] at hq
    clear hz hz'
    by_cases h1 : ok4 4000000 a b c d = true
    · have H1 := hid h1; clear h1
      go_enter Try.func22, Try.ntmps22
      go_wp2_with fail
      refine (within_any _ _ _ _ _ _ [a, b, c, d] _ rfl (by simp) (cells_ints _ (by repeat' (first | (refine heap_alloc_at _ _ _ ?_; (first | rfl | (simp; done) | (simp; omega))) | (refine heap_alloc_past _ _ _ _ ?_))) rfl)).mono ?_
      rintro r w' ⟨rfl, rfl⟩
      rw [show [a, b, c, d].all (inB (-4000000) 4000000) = true from H1.out]
      go_wp2_with fail
      have h2 := ok4_iff.1 H1.out
      refine (qbeam_any a b c d _ h2.1 h2.2.1 h2.2.2.1 h2.2.2.2).mono ?_
      clear h2
      rintro r w1 ⟨rfl, hb⟩
      have G2 := hid (heap_below hb (by first | (simp; done) | (simp; omega)) (by repeat' (first | (refine heap_alloc_at _ _ _ ?_; (first | rfl | (simp; done) | (simp; omega))) | (refine heap_alloc_past _ _ _ _ ?_))) : w1.heap[w.heap.size + 1]? = some (.cells #[.int .i64 0, .int .i64 0, .int .i64 0] 26))
      have HB := hid ((by refine Below.trans ?_ (hb.mono ?_); (focus ((repeat' (first | (with_reducible exact Below.refl _ _) | (with_reducible assumption) | (with_reducible refine Below.alloc ?_ ?_ _) | (with_reducible refine Below.drew ?_) | (with_reducible refine below_drewN ?_ _) | (with_reducible refine Below.setCell ?_ ?_ _) | (with_reducible refine below_setRow ?_ ?_ _) | go_size)); done)); (focus (first | (simp; done) | (simp; omega)))) : Below w.heap.size w w1)
      have hlt : w.heap.size + 1 < w1.heap.size := (Array.getElem?_eq_some_iff.1 G2.out).1
      clear hb hq
      go_wp2_with (refine wpList_store_at rfl 26 (.tmp 2) (.tmp 21) rfl rfl rfl (heap_alloc_past _ _ _ _ G2.out) size26 rfl rfl rfl ?_)
      refine bodyPost_ret (results_at3 rfl rfl (setRow_heap _ _ _ _ _ _ (heap_alloc_past _ _ _ _ G2.out)) Try.underlying26 rfl size26 rfl) rfl ?_
      refine ⟨by rw [bmV_yes (HT.out.trans H1.out)]; rfl, below_setRow (HB.out.alloc (by omega) _) (by omega) _⟩
    · have H1 := hid (Bool.eq_false_iff.2 h1); clear h1
      go_enter Try.func22, Try.ntmps22
      go_wp2_with fail
      refine (within_any _ _ _ _ _ _ [a, b, c, d] _ rfl (by simp) (cells_ints _ (by repeat' (first | (refine heap_alloc_at _ _ _ ?_; (first | rfl | (simp; done) | (simp; omega))) | (refine heap_alloc_past _ _ _ _ ?_))) rfl)).mono ?_
      rintro r w' ⟨rfl, rfl⟩
      rw [show [a, b, c, d].all (inB (-4000000) 4000000) = false from H1.out]
      go_wp2
      go_returns
      refine ⟨by rw [bmV_no (HT.out.trans H1.out)], ?_⟩
      (repeat' (first | (with_reducible exact Below.refl _ _) | (with_reducible assumption) | (with_reducible refine Below.alloc ?_ ?_ _) | (with_reducible refine Below.drew ?_) | (with_reducible refine below_drewN ?_ _) | (with_reducible refine Below.setCell ?_ ?_ _) | (with_reducible refine below_setRow ?_ ?_ _) | go_size))

theorem bcell {W w1 : World} (hb : Below W.heap.size W w1) : (∀ b o, b < W.heap.size → w1.cell? ⟨b, o, none⟩ = W.cell? ⟨b, o, none⟩) ∧ (∀ b o, b < W.heap.size → w1.frozen? ⟨b, o, none⟩ = W.frozen? ⟨b, o, none⟩) :=
  ⟨fun b o h => hb.cell (p := ⟨b, o, none⟩) h, fun b o h => hb.frozen (p := ⟨b, o, none⟩) h⟩
theorem awake_beam : bmV 1 1 0 0 = .tuple #[.agg #[.int .i64 0, .int .i64 2, .int .i64 0], .int .i64 2, .int .i64 0] := by
  rw [bmV_yes (by decide)]
  rfl
set_option maxRecDepth 100000 in
theorem awake_any (w : World) : Calls Try.prog 24 #[] w fun r w' => r = .returned (.bool true) ∧ Below w.heap.size w w' := by
  have hq := eq26 0 2 0 0 2 0
  rw [show ([(0 : Int), 2, 0] == [0, 2, 0]) = true from rfl] at hq
  go_enter Try.func24, Try.ntmps24
  go_wp2_with fail
  refine (xbeam_any _ _ _ _ _).mono ?_
  rintro r w1 ⟨rfl, hb⟩
  rw [awake_beam]
  go_wp2
  go_returns
  refine ⟨rfl, ?_⟩
  exact (hb.alloc (by have := hb.size; omega) _)
end Go.Proofs.Yteoikaedpgianaa
