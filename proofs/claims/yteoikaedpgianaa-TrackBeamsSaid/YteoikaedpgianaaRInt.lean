/- The reference's integers with a sign. -/
import Derived.Test.YteoikaedpgianaaLimb8
namespace Go.Proofs.Yteoikaedpgianaa
open Go.RowKit Limb

/-- of so many limbs at most -/
def LenLe (m k : Nat) : Prop := (natL m).length ≤ k
theorem LenLe.le {m k : Nat} (h : LenLe m k) : (natL m).length ≤ k := h
theorem LenLe.wide {m k k' : Nat} (h : LenLe m k) (hk : k ≤ k') : LenLe m k' := Nat.le_trans h hk
/-- an integer in memory, of so many limbs at most -/
def IntAt (W : World) (v : Value) (z : Int) (k : Nat) : Prop := ∃ l, v = .agg #[.bool (decide (z < 0)), l] ∧ NatAt W l z.natAbs ∧ LenLe z.natAbs k
theorem IntAt.grow {W W' : World} {v : Value} {z : Int} {k : Nat} (h : IntAt W v z k) (hB : Below W.heap.size W W') : IntAt W' v z k := by
  obtain ⟨l, h1, h2, h3⟩ := h
  exact ⟨l, h1, h2.grow hB, h3⟩
theorem IntAt.wide {W : World} {v : Value} {z : Int} {k k' : Nat} (h : IntAt W v z k) (hk : k ≤ k') : IntAt W v z k' := by
  obtain ⟨l, h1, h2, h3⟩ := h
  exact ⟨l, h1, h2, h3.wide hk⟩
theorem natL_mul {x y p q : Nat} (hx : LenLe x p) (hy : LenLe y q) : LenLe (x * y) (p + q) := by
  refine natL_length_le.2 ?_
  rw [Nat.pow_add]
  exact Nat.mul_lt_mul_of_lt_of_lt (natL_length_le.1 hx) (natL_length_le.1 hy)
theorem natL_add {x y p q : Nat} (hx : LenLe x p) (hy : LenLe y q) : LenLe (x + y) (p + q + 1) := by
  refine natL_length_le.2 ?_
  have h1 := natL_length_le.1 hx
  have h2 := natL_length_le.1 hy
  have h3 : 65536 ^ p ≤ 65536 ^ (p + q) := Nat.pow_le_pow_right (by decide) (by omega)
  have h4 : 65536 ^ q ≤ 65536 ^ (p + q) := Nat.pow_le_pow_right (by decide) (by omega)
  rw [Nat.pow_succ]
  omega
theorem NatIn.set {W : World} {B g m : Nat} {v : Value} {cs : Array Value} (h : NatIn B W v m) (hg : g < B) : NatAt (W.setRow g cs) v m := own_base3 (own_set h hg) (Nat.zero_le _)

set_option maxRecDepth 100000 in
set_option maxHeartbeats 800000 in
theorem imul_any (a b : Int) (ka kb : Nat) (va vb : Value) (w : World) (ha : IntAt w va a ka) (hb : IntAt w vb b kb) (hka : ka ≤ 20000) (hkb : kb ≤ 20000) :
    Calls Try.prog 80 #[va, vb] w fun r w' => (∃ v, r = .returned v ∧ IntAt w' v (a * b) (ka + kb)) ∧ Below w.heap.size w w' := by
  obtain ⟨la, rfl, hna, hla⟩ := ha
  obtain ⟨la, ca, rfl, _, _⟩ := NatAt.open hna
  obtain ⟨lb, rfl, hnb, hlb⟩ := hb
  obtain ⟨lb, cb, rfl, _, _⟩ := NatAt.open hnb
  have HSG := hid (@mul_sign a b)
  have HM := hid (fun w hx hy => mul_any a.natAbs b.natAbs (.slice la (natL a.natAbs).length ca) (.slice lb (natL b.natAbs).length cb) w hx hy (hla.wide (by omega)).le (hlb.wide (by omega)).le)
  have HK := hid (natL_mul hla hlb)
  have HNA := hid hna
  have HNB := hid hnb
  clear hna hnb hla hlb hka hkb
  generalize decide (a < 0) = sa at *
  generalize decide (b < 0) = sb at *
  generalize (natL a.natAbs).length = p at *
  generalize (natL b.natAbs).length = q at *
  go_enter Try.func80, Try.ntmps80
  go_wp2_with fail
  refine (HM.out _ (HNA.out.grow (by (repeat' (first | (with_reducible exact Below.refl _ _) | (with_reducible assumption) | (with_reducible refine Below.alloc ?_ ?_ _) | (with_reducible refine Below.drew ?_) | (with_reducible refine below_drewN ?_ _) | (with_reducible refine Below.setCell ?_ ?_ _) | (with_reducible refine below_setRow ?_ ?_ _) | go_size)))) (HNB.out.grow (by (repeat' (first | (with_reducible exact Below.refl _ _) | (with_reducible assumption) | (with_reducible refine Below.alloc ?_ ?_ _) | (with_reducible refine Below.drew ?_) | (with_reducible refine below_drewN ?_ _) | (with_reducible refine Below.setCell ?_ ?_ _) | (with_reducible refine below_setRow ?_ ?_ _) | go_size))))).mono ?_
  rintro r w1 ⟨⟨l, rfl, hl⟩, hb⟩
  have F2 := hid (heap_below hb (by first | (simp; done) | (simp; omega)) (by repeat' (first | (refine heap_alloc_at _ _ _ ?_; (first | rfl | (simp; done) | (simp; omega))) | (refine heap_alloc_past _ _ _ _ ?_))) : w1.heap[w.heap.size + 1 + 1]? = some (.cells #[.bool false, .slice none 0 0] 33))
  have F0 := hid (heap_below hb (by first | (simp; done) | (simp; omega)) (by repeat' (first | (refine heap_alloc_at _ _ _ ?_; (first | rfl | (simp; done) | (simp; omega))) | (refine heap_alloc_past _ _ _ _ ?_))) : w1.heap[w.heap.size]? = some (.cells #[.bool sa, .slice la p ca] 33))
  have F1 := hid (heap_below hb (by first | (simp; done) | (simp; omega)) (by repeat' (first | (refine heap_alloc_at _ _ _ ?_; (first | rfl | (simp; done) | (simp; omega))) | (refine heap_alloc_past _ _ _ _ ?_))) : w1.heap[w.heap.size + 1]? = some (.cells #[.bool sb, .slice lb q cb] 33))
  have c0 : w1.cell? ⟨w.heap.size, 0, none⟩ = some (.bool sa) := (cell_row (j := 0) F0.out).trans rfl
  have c1 : w1.cell? ⟨w.heap.size + 1, 0, none⟩ = some (.bool sb) := (cell_row (j := 0) F1.out).trans rfl
  have HB1 := hid ((by refine Below.trans ?_ (hb.mono ?_); (focus ((repeat' (first | (with_reducible exact Below.refl _ _) | (with_reducible assumption) | (with_reducible refine Below.alloc ?_ ?_ _) | (with_reducible refine Below.drew ?_) | (with_reducible refine below_drewN ?_ _) | (with_reducible refine Below.setCell ?_ ?_ _) | (with_reducible refine below_setRow ?_ ?_ _) | go_size)); done)); (focus (first | (simp; done) | (simp; omega)))) : Below w.heap.size w w1)
  have HL := hid hl
  obtain ⟨al, cl, rfl, _, _⟩ := own_open hl
  clear hb hl
  by_cases hz : a.natAbs * b.natAbs = 0
  · have hl0 : (natL (a.natAbs * b.natAbs)).length = 0 := by rw [hz, natL_zero]; rfl
    have HZ := hid (show decide (a * b < 0) = false by rw [HSG.out, hz]; simp)
    rw [hl0] at HL ⊢
    clear hl0 hz HSG
    cases sa <;> cases sb
    all_goals
      go_wp2_with (refine wpList_store_at rfl 33 (.tmp 4) (.tmp 22) rfl rfl rfl (F2.out) size33 rfl rfl rfl ?_)
      refine bodyPost_ret (results_at1 rfl rfl (setRow_heap _ _ _ _ _ _ (F2.out)) Try.underlying33 rfl size33 rfl) rfl ?_
      refine ⟨⟨_, rfl, _, by rw [HZ.out], ?_, by rw [Int.natAbs_mul]; exact HK.out⟩, below_setRow HB1.out (by omega) _⟩
      rw [Int.natAbs_mul]
      exact NatIn.set HL.out (by simp)
  · have hlp : 0 < (natL (a.natAbs * b.natAbs)).length := length_pos (by omega)
    have HZ := hid (show decide (a * b < 0) = (sa != sb) by rw [HSG.out]; simp [hz])
    clear hz HSG
    generalize (natL (a.natAbs * b.natAbs)).length = n at *
    cases sa <;> cases sb
    all_goals
      go_wp2_with (refine wpList_store_at rfl 33 (.tmp 4) (.tmp 22) rfl rfl rfl (F2.out) size33 rfl rfl rfl ?_)
      refine bodyPost_ret (results_at1 rfl rfl (setRow_heap _ _ _ _ _ _ (F2.out)) Try.underlying33 rfl size33 rfl) rfl ?_
      refine ⟨⟨_, rfl, _, by rw [HZ.out]; rfl, ?_, by rw [Int.natAbs_mul]; exact HK.out⟩, below_setRow HB1.out (by omega) _⟩
      rw [Int.natAbs_mul]
      exact NatIn.set HL.out (by simp)
end Go.Proofs.Yteoikaedpgianaa
