/- The reference's rational numbers: negation, rounding, products, quotients. -/
import Derived.Test.YteoikaedpgianaaRFit
namespace Go.Proofs.Yteoikaedpgianaa
open Go.RowKit Limb

theorem IntAt.stb (z : Int) (k : Nat) : Stb (fun W v => IntAt W v z k) := fun _ _ _ hB h => h.grow hB
theorem QAt.stb (q : Rat) (k : Nat) : Stb (fun W v => QAt W v q k) := fun _ _ _ hB h => h.grow hB
theorem NatAt.stb (m : Nat) : Stb (fun W v => NatAt W v m) := fun _ _ _ hB h => h.grow hB
/-- what a region with one store at its end leaves: the result in its block -/
def QFin (w : World) (g : Nat) (q : Rat) (k : Nat) (W : World) : Prop := ∃ cs, W.heap[g]? = some (.cells cs 35) ∧ QAt W (.agg cs) q k ∧ Below w.heap.size w W
theorem QAt.cells {W : World} {v : Value} {q : Rat} {k : Nat} (h : QAt W v q k) : ∃ cs, v = .agg cs ∧ cs.size = 3 ∧ cs.toList.all (·.oneCell') = true := by
  obtain ⟨_, _, h1, h2, h3, _⟩ := h
  obtain ⟨_, _, rfl, _, _⟩ := h2.open
  obtain ⟨_, _, rfl, _, _⟩ := h3.open
  exact ⟨_, h1, rfl, rfl⟩
theorem QAt.row {W : World} {g k : Nat} {v : Value} {q : Rat} {t : TypeId} {fr : Nat × Nat} {old cs : Array Value} (h : QAt W v q k) (hg : W.heap[g]? = some (.cells old t fr)) (ht : t ≠ 3) : QAt (W.setRow g cs) v q k := by
  obtain ⟨l, l', h1, h2, h3, h4⟩ := h
  exact ⟨l, l', h1, h2.row hg ht, h3.row hg ht, h4⟩

set_option maxRecDepth 100000 in
set_option maxHeartbeats 800000 in
theorem qminus_any (q : Rat) (k : Nat) (va : Value) (w : World) (ha : QAt w va q k) :
    Calls Try.prog 134 #[va] w fun r w' => (∃ v, r = .returned v ∧ QAt w' v (-q) k) ∧ Below w.heap.size w w' := by
  obtain ⟨ln, ld, rfl, hn, hd, hkn, hkd⟩ := ha
  obtain ⟨a, ca, rfl, _, _⟩ := hn.open
  obtain ⟨b, cb, rfl, _, _⟩ := hd.open
  have HN := hid hn
  have HD := hid hd
  have HKN := hid hkn
  have HKD := hid hkd
  obtain ⟨z, hz⟩ : ∃ z, z = -q.num := ⟨_, rfl⟩
  have HZ := hid hz
  have HI := hid (fun W h => iminus_any q.num k (.agg #[.bool (decide (q.num < 0)), .slice a (natL q.num.natAbs).length ca]) W h)
  rw [← hz] at HI
  clear hz
  have HIA := hid (show ∀ W, Below w.heap.size w W → IntAt W (.agg #[.bool (decide (q.num < 0)), .slice a (natL q.num.natAbs).length ca]) q.num k from fun W hW => ⟨_, rfl, hn.grow hW, hkn⟩)
  generalize decide (q.num < 0) = s at *
  generalize (natL q.num.natAbs).length = p at *
  generalize (natL q.den).length = r at *
  clear hn hd hkn hkd
  go_enter Try.func134, Try.ntmps134
  go_wp2_with fail
  refine gen_world (fun W0 hW0 => ?_)
  have HB0 := hid (show Below w.heap.size w W0 by rw [hW0]; (repeat' (first | (with_reducible exact Below.refl _ _) | (with_reducible assumption) | (with_reducible refine Below.alloc ?_ ?_ _) | (with_reducible refine Below.drew ?_) | (with_reducible refine below_drewN ?_ _) | (with_reducible refine Below.setCell ?_ ?_ _) | (with_reducible refine below_setRow ?_ ?_ _) | go_size)))
  have F0 := hid (show W0.heap[w.heap.size]? = some (.cells #[.bool s, .slice a p ca, .slice b r cb] 35) by rw [hW0]; exact (by repeat' (first | (refine heap_alloc_at _ _ _ ?_; (first | rfl | (simp; done) | (simp; omega))) | (refine heap_alloc_past _ _ _ _ ?_))))
  have F1 := hid (show W0.heap[w.heap.size + 1]? = some (.cells #[.bool false, .slice none 0 0, .slice none 0 0] 35) by rw [hW0]; exact (by repeat' (first | (refine heap_alloc_at _ _ _ ?_; (first | rfl | (simp; done) | (simp; omega))) | (refine heap_alloc_past _ _ _ _ ?_))))
  clear hW0
  refine gen_act (fun A0 hA => ?_)
  refine wp_region_two (by kernel_rfl) (by kernel_rfl) [some 3, some 4, some 5, some 6, some 7, some 8, none] rfl (by decide) 6 (by decide) (by kernel_rfl) (by kernel_rfl)
    [IsV (.pointer (some ⟨w.heap.size, 0, none⟩)), IsV (.agg #[.bool s, .slice a p ca]), fun W v => IntAt W v z k, IsV (.pointer (some ⟨w.heap.size, 2, none⟩)), IsV (.slice b r cb), fun W v => QAt W v (-q) k]
    ⟨IsV.stb _, IsV.stb _, IntAt.stb _ _, IsV.stb _, IsV.stb _, QAt.stb _ _, trivial⟩
    (fun L us W => (L 6 = false → Below W0.heap.size W0 W ∧ QAt W (us 5) (-q) k) ∧ (L 6 = true → QFin w (w.heap.size + 1) (-q) k W)) ?h12 ?hs1 ?hs2 ?hend (by decide)
  case h12 =>
    intro L us W h1 h2 hB hp
    exact ⟨fun _ => ⟨hB, hp 5 (by decide)⟩, fun h => by rw [h2 6 (by decide) (by decide)] at h; cases h⟩
  case hs1 =>
    refine ⟨?_, ?_, ?_, ?_, ?_, ?_, trivial⟩
    · intro K us W hK0 hB hd
      have hK := hid hK0; clear hK0
      have HBW := hid hB
      have hsW := hB.size
      (try simp [Region.binds] at hd)
      simp only [putF]
      rw [hA]
      go_frame
      go_wp2_with fail
      exact hK.out _ _ _ (by rw [hA]; kernel_rfl) (Below.refl _ _) rfl
    · intro K us W hK0 hB hd
      have hK := hid hK0; clear hK0
      have HBW := hid hB
      have hsW := hB.size
      (try simp [Region.binds] at hd)
      have e0 : us 0 = _ := hd
      have G0 := hid (heap_still hB F0.out)
      have c0 : W.cell? ⟨w.heap.size, 0, none⟩ = some (.bool s) := (cell_row (j := 0) G0.out).trans rfl
      have c1 : W.cell? ⟨w.heap.size, 1, none⟩ = some (.slice a p ca) := (cell_row (j := 1) G0.out).trans rfl
      simp only [putF]
      rw [hA]
      rw [e0]
      go_frame
      go_wp2_with fail
      exact hK.out _ _ _ (by rw [hA]; simp only [putF]; rw [e0]; kernel_rfl) (Below.refl _ _) rfl
    · intro K us W hK0 hB hd
      have hK := hid hK0; clear hK0
      have HBW := hid hB
      have hsW := hB.size
      (try simp [Region.binds] at hd)
      have e0 : us 1 = _ := hd
      simp only [putF]
      rw [hA]
      rw [e0]
      go_frame
      go_wp2_with fail
      refine (HI.out W (HIA.out W (HB0.out.trans (hB.mono HB0.out.size)))).mono ?_
      rintro r W' ⟨⟨v, rfl, hv⟩, hb⟩
      go_wp2_with fail
      exact hK.out _ _ _ (by rw [hA]; simp only [putF]; rw [e0]; kernel_rfl) hb hv
    · intro K us W hK0 hB hd
      have hK := hid hK0; clear hK0
      have HBW := hid hB
      have hsW := hB.size
      (try simp [Region.binds] at hd)
      simp only [putF]
      rw [hA]
      go_frame
      go_wp2_with fail
      exact hK.out _ _ _ (by rw [hA]; kernel_rfl) (Below.refl _ _) rfl
    · intro K us W hK0 hB hd
      have hK := hid hK0; clear hK0
      have HBW := hid hB
      have hsW := hB.size
      (try simp [Region.binds] at hd)
      have e0 : us 3 = _ := hd
      have G0 := hid (heap_still hB F0.out)
      have c0 : W.cell? ⟨w.heap.size, 2, none⟩ = some (.slice b r cb) := (cell_row (j := 2) G0.out).trans rfl
      simp only [putF]
      rw [hA]
      rw [e0]
      go_frame
      go_wp2_with fail
      exact hK.out _ _ _ (by rw [hA]; simp only [putF]; rw [e0]; kernel_rfl) (Below.refl _ _) rfl
    · intro K us W hK0 hB hd
      have hK := hid hK0; clear hK0
      have HBW := hid hB
      have hsW := hB.size
      (try simp [Region.binds] at hd)
      obtain ⟨l, e0, hl, hk⟩ := hd.1
      have e1 : us 4 = _ := hd.2
      have HL := hid hl
      obtain ⟨al, cl, rfl, _, _⟩ := hl.open
      clear hl
      simp only [putF]
      rw [hA]
      rw [e0, e1]
      go_frame
      go_wp2_with fail
      exact hK.out _ _ _ (by rw [hA]; simp only [putF]; rw [e0, e1]; kernel_rfl) (Below.refl _ _) ⟨_, _, by rw [Rat.neg_num, ← HZ.out], by rw [Rat.neg_num, ← HZ.out]; exact HL.out, (HD.out.grow (HB0.out.trans (HBW.out.mono HB0.out.size))), by rw [Rat.neg_num, ← HZ.out]; exact hk, HKD.out⟩
  case hs2 =>
    refine ⟨?_, trivial⟩
    intro K L us W hK0 hL hd hR
    have hK := hid hK0; clear hK0
    obtain ⟨hB, hq⟩ := hR.1 hL
    have HQ := hid hq
    obtain ⟨cs, e0, hcs, hco⟩ := hq.cells
    have G1 := hid (heap_still hB F1.out)
    have HBW := hid hB
    have hsW := hB.size
    have hs0 := HB0.out.size
    rw [e0] at HQ
    simp only [putF]
    rw [hA, e0]
    go_frame
    go_wp2_with (refine wpList_store_at rfl 35 (.tmp 2) (.tmp 8) rfl rfl rfl (G1.out) size35 hcs rfl hco ?_)
    refine hK.out undef _ _ (by rw [hA]; simp only [putF]; rw [e0]; kernel_rfl) ⟨fun h => by simp at h, fun _ => ⟨cs, setRow_heap _ _ _ _ _ _ G1.out, HQ.out.row G1.out (by decide), below_setRow (HB0.out.trans (HBW.out.mono hs0)) (by omega) _⟩⟩
  case hend =>
    intro L us W hL hR
    obtain ⟨cs, hh, hq, hb⟩ := hR.2 (hL 6 (by decide))
    obtain ⟨cs', e0, hcs, hco⟩ := hq.cells
    cases e0
    have HQ := hid hq
    have HBW := hid hb
    have HH := hid hh
    clear hq hb hh
    simp only [putF]
    rw [hA]
    go_frame
    go_wp2_with fail
    refine bodyPost_ret (results_at1 rfl rfl HH.out Try.underlying35 rfl size35 hcs) rfl ?_
    exact ⟨⟨_, rfl, HQ.out⟩, HBW.out⟩
end Go.Proofs.Yteoikaedpgianaa
