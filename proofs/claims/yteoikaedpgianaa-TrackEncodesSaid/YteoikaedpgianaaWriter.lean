/- The program's writer of numbers: what its methods append. -/
import Derived.Test.YteoikaedpgianaaLink
import Derived.Test.YteoikaedpgianaaFixR
namespace Go.Proofs.Yteoikaedpgianaa
open Go.RowKit

/-- a writer in memory, with its bytes -/
def WrAt (w : World) (wb : Nat) (ys : List Nat) : Prop :=
  ∃ g cap, w.heap[wb]? = some (.cells #[.slice (some ⟨g, 0, none⟩) ys.length cap] 157) ∧ w.ownsRow 0 5 1 (.slice (some ⟨g, 0, none⟩) ys.length cap) ys.length (u8s ys) ∧ g ≠ wb ∧ 0 < ys.length
theorem own_same {w w' : World} {g n cap : Nat} {xs : List Value} (h : w.ownsRow 0 5 1 (.slice (some ⟨g, 0, none⟩) n cap) n xs) (hs : w'.heap[g]? = w.heap[g]?) : w'.ownsRow 0 5 1 (.slice (some ⟨g, 0, none⟩) n cap) n xs := by
  obtain ⟨h1, h2⟩ := h
  refine ⟨h1, ?_⟩
  rcases h2 with ⟨h2, _⟩ | ⟨g', cap', cur, hv, hg, hr, h3⟩
  · cases h2
  · simp only [Value.slice.injEq, Option.some.injEq, Addr.mk.injEq] at hv
    obtain ⟨⟨rfl, _⟩, _, rfl⟩ := hv
    exact Or.inr ⟨_, _, cur, rfl, hg, hs.trans hr, h3⟩
theorem own_lt {w : World} {B g n cap : Nat} {xs : List Value} (h : w.ownsRow B 5 1 (.slice (some ⟨g, 0, none⟩) n cap) n xs) : g < w.heap.size := (h.lt g rfl).2

theorem Only.of_below {rb B : Nat} {w w' : World} (h : Below B w w') : Only rb B w w' := ⟨h.os, h.tape, h.output, h.size, fun k hk _ => h.block k hk⟩
theorem wr_next {w1 : World} {wb g3 n cap3 B : Nat} {v : Value} {ys : List Nat} (hr : w1.heap[wb]? = some (.cells #[v] 157)) (ho : w1.ownsRow B 5 1 (.slice (some ⟨g3, 0, none⟩) ys.length cap3) ys.length (u8s ys)) (hne : g3 ≠ wb) (hp : 0 < ys.length) (hn : n = ys.length) :
    WrAt (w1.setCell ⟨wb, 0, none⟩ (.slice (some ⟨g3, 0, none⟩) n cap3)) wb ys := by
  subst hn
  exact ⟨g3, cap3, heap_setCell hr _, own_same (own_base ho (Nat.zero_le _)) (Below.heap_setCell w1 ⟨wb, 0, none⟩ _ g3 hne), hne, hp⟩

set_option maxRecDepth 100000 in
theorem wNumber_any (wb lb lo lc m : Nat) (zs : List Int) (xs : List Nat) (w : World) (hw : WrAt w wb xs) (hn : xs.length ≤ 2000) (hz : ∀ z ∈ zs, 0 ≤ z ∧ z ≤ 4611686018427387903) (hm : zs.length = m) (hzl : m ≤ 10)
    (hl : ∀ i, i < m → w.cell? ⟨lb, lo + i, none⟩ = some (.int .i64 (zs.getD i 0))) (hlb : lb < w.heap.size) (hne : lb ≠ wb) :
    Calls Try.prog 101 #[.pointer (some ⟨wb, 0, none⟩), .slice (some ⟨lb, lo, none⟩) m lc] w fun e w' => e = .returned (.tuple #[]) ∧ WrAt w' wb (xs ++ encs encU zs) ∧ Only wb w.heap.size w w' := by
  have HW := hid hw
  have HZ := hid hz
  have HL := hid hl
  have HM := hid hm
  clear hw hz hl hm
  go_enter Try.func101, Try.ntmps101
  go_wp2_with fail
  go_loopw [8] (fun i wr => ∃ (k : Nat) (ys : List Nat), k ≤ m ∧ i = .int .i64 k ∧ ys = xs ++ encs encU (zs.take k) ∧ WrAt wr wb ys ∧ Only wb w.heap.size w wr) (fun i _ => m - (intOf i).toNat)
  case atStart => exact ⟨0, xs, by omega, rfl, by simp [encs], HW.out, Only.refl _ _ _⟩
  case round =>
    obtain ⟨k, ys, hk, rfl, he, hw2, hO⟩ := hrel
    have HO2 := hid hO
    have HE := hid he
    by_cases hlt : k < m
    · have hkz : k < zs.length := by rw [HM.out]; exact hlt
      have hc : wr.cell? ⟨lb, lo + k, none⟩ = some (.int .i64 zs[k]) := by
        rw [World.cell?_of_block (w := w) (w' := wr) (a := ⟨lb, lo + k, none⟩) (hO.block lb hlb hne), ← show zs.getD k 0 = zs[k] by simp [List.getD_eq_getElem?_getD, hkz]]; exact HL.out k hlt
      have hzk := HZ.out zs[k] (List.getElem_mem hkz)
      have hyb : ys.length ≤ 4096 := by
        have h1 := encs_len (f := encU) (m := 9) (zs.take k) (fun z hz => nat_len (HZ.out z (List.mem_of_mem_take hz)))
        rw [he, List.length_append]
        have h2 : (zs.take k).length ≤ 10 := by simp; omega
        omega
      have HST := hid (show xs ++ encs encU (zs.take (k + 1)) = ys ++ encU zs[k] by rw [encs_step hkz, he]; simp)
      obtain ⟨g2, cap2, hr, hown, hgw, hyl⟩ := hw2
      have HR := hid hr
      have HO3 := hid hown
      have c0 : wr.cell? ⟨wb, 0, none⟩ = some (.slice (some ⟨g2, 0, none⟩) ys.length cap2) := by simp [World.cell?, hr]
      have hwb : wb < wr.heap.size := (Array.getElem?_eq_some_iff.1 hr).1
      clear he hO hr hown
      generalize zs[k] = z at *
      go_wp2_with fail
      obtain ⟨q, rfl⟩ : ∃ q : Nat, z = q := ⟨z.toNat, by omega⟩
      refine (xNumber_any g2 _ cap2 q ys _ HO3.out hyb hyl (by omega)).mono ?_
      rintro r w1 ⟨⟨v, rfl, hown3⟩, hb⟩
      obtain ⟨g3, cap3, rfl, hg3⟩ := own_shape hown3 (by simp; omega)
      have HB3 := hid hb
      have HR1 := hid (heap_still hb HR.out)
      have HO4 := hid hown3
      have d0 : w1.cell? ⟨wb, 0, none⟩ = some (.slice (some ⟨g2, 0, none⟩) ys.length cap2) := by have hh := HR1.out; simp [World.cell?, hh]
      have df : w1.frozen? ⟨wb, 0, none⟩ = false := by have hh := HR1.out; simp [World.frozen?, hh]
      have hs1 := hb.size
      have hg3w : g3 ≠ wb := by omega
      have HOW := hid (own_lt hown3)
      clear hb hown3
      go_wp2_with fail
      go_roundw
      case rel => exact ⟨k + 1, _, by omega, by go_num, HST.out.symm, wr_next HR1.out HO4.out hg3w (by rw [List.length_append]; omega) (by rw [List.length_append]; rfl), only_setCell (HO2.out.trans (Only.of_below HB3.out) HO2.out.size) _⟩
      case measure => simp [intOf]; omega
    · obtain rfl : k = m := by omega
      have HF := hid (show xs ++ encs encU zs = ys by rw [he, List.take_of_length_le (Nat.le_of_eq HM.out)])
      have HW2 := hid hw2
      clear he hO hw2
      go_wp2_with fail
      go_end0
      rw [HF.out]
      exact ⟨rfl, HW2.out, HO2.out⟩
set_option maxRecDepth 100000 in
theorem wSigned_any (wb lb lo lc m : Nat) (zs : List Int) (xs : List Nat) (w : World) (hw : WrAt w wb xs) (hn : xs.length ≤ 2000) (hz : ∀ z ∈ zs, -2305843009213693952 ≤ z ∧ z ≤ 2305843009213693951) (hm : zs.length = m) (hzl : m ≤ 10)
    (hl : ∀ i, i < m → w.cell? ⟨lb, lo + i, none⟩ = some (.int .i64 (zs.getD i 0))) (hlb : lb < w.heap.size) (hne : lb ≠ wb) :
    Calls Try.prog 102 #[.pointer (some ⟨wb, 0, none⟩), .slice (some ⟨lb, lo, none⟩) m lc] w fun e w' => e = .returned (.tuple #[]) ∧ WrAt w' wb (xs ++ encs encS zs) ∧ Only wb w.heap.size w w' := by
  have HW := hid hw
  have HZ := hid hz
  have HL := hid hl
  have HM := hid hm
  clear hw hz hl hm
  go_enter Try.func102, Try.ntmps102
  go_wp2_with fail
  go_loopw [8] (fun i wr => ∃ (k : Nat) (ys : List Nat), k ≤ m ∧ i = .int .i64 k ∧ ys = xs ++ encs encS (zs.take k) ∧ WrAt wr wb ys ∧ Only wb w.heap.size w wr) (fun i _ => m - (intOf i).toNat)
  case atStart => exact ⟨0, xs, by omega, rfl, by simp [encs], HW.out, Only.refl _ _ _⟩
  case round =>
    obtain ⟨k, ys, hk, rfl, he, hw2, hO⟩ := hrel
    have HO2 := hid hO
    have HE := hid he
    by_cases hlt : k < m
    · have hkz : k < zs.length := by rw [HM.out]; exact hlt
      have hc : wr.cell? ⟨lb, lo + k, none⟩ = some (.int .i64 zs[k]) := by
        rw [World.cell?_of_block (w := w) (w' := wr) (a := ⟨lb, lo + k, none⟩) (hO.block lb hlb hne), ← show zs.getD k 0 = zs[k] by simp [List.getD_eq_getElem?_getD, hkz]]; exact HL.out k hlt
      have hzk := HZ.out zs[k] (List.getElem_mem hkz)
      have hyb : ys.length ≤ 4096 := by
        have h1 := encs_len (f := encS) (m := 9) (zs.take k) (fun z hz => zig_len (HZ.out z (List.mem_of_mem_take hz)))
        rw [he, List.length_append]
        have h2 : (zs.take k).length ≤ 10 := by simp; omega
        omega
      have HST := hid (show xs ++ encs encS (zs.take (k + 1)) = ys ++ encS zs[k] by rw [encs_step hkz, he]; simp)
      obtain ⟨g2, cap2, hr, hown, hgw, hyl⟩ := hw2
      have HR := hid hr
      have HO3 := hid hown
      have c0 : wr.cell? ⟨wb, 0, none⟩ = some (.slice (some ⟨g2, 0, none⟩) ys.length cap2) := by simp [World.cell?, hr]
      have hwb : wb < wr.heap.size := (Array.getElem?_eq_some_iff.1 hr).1
      clear he hO hr hown
      generalize zs[k] = z at *
      go_wp2_with fail
      refine (xSignedW_any g2 _ cap2 z ys _ HO3.out hyb hyl hzk).mono ?_
      rintro r w1 ⟨⟨v, rfl, hown3⟩, hb⟩
      obtain ⟨g3, cap3, rfl, hg3⟩ := own_shape hown3 (by simp; omega)
      have HB3 := hid hb
      have HR1 := hid (heap_still hb HR.out)
      have HO4 := hid hown3
      have d0 : w1.cell? ⟨wb, 0, none⟩ = some (.slice (some ⟨g2, 0, none⟩) ys.length cap2) := by have hh := HR1.out; simp [World.cell?, hh]
      have df : w1.frozen? ⟨wb, 0, none⟩ = false := by have hh := HR1.out; simp [World.frozen?, hh]
      have hs1 := hb.size
      have hg3w : g3 ≠ wb := by omega
      have HOW := hid (own_lt hown3)
      clear hb hown3
      go_wp2_with fail
      go_roundw
      case rel => exact ⟨k + 1, _, by omega, by go_num, HST.out.symm, wr_next HR1.out HO4.out hg3w (by rw [List.length_append]; omega) (by rw [List.length_append]; rfl), only_setCell (HO2.out.trans (Only.of_below HB3.out) HO2.out.size) _⟩
      case measure => simp [intOf]; omega
    · obtain rfl : k = m := by omega
      have HF := hid (show xs ++ encs encS zs = ys by rw [he, List.take_of_length_le (Nat.le_of_eq HM.out)])
      have HW2 := hid hw2
      clear he hO hw2
      go_wp2_with fail
      go_end0
      rw [HF.out]
      exact ⟨rfl, HW2.out, HO2.out⟩
end Go.Proofs.Yteoikaedpgianaa
