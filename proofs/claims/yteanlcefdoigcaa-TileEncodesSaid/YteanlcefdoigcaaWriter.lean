/- The program's writer of numbers: what its methods append. -/
import Derived.Test.YteanlcefdoigcaaLink
import Derived.Test.YteanlcefdoigcaaReader
namespace Go.Proofs.Yteanlcefdoigcaa
open Go.RowKit

/-- a writer in memory, with its bytes -/
def WrAt (w : World) (wb : Nat) (ys : List Nat) : Prop :=
  ∃ v, w.heap[wb]? = some (.cells #[v] 154) ∧ OwnB w (wb + 1) v ys
theorem OwnB.same {w w' : World} {B : Nat} {v : Value} {xs : List Nat} (h : OwnB w B v xs) (hs : ∀ g, v.ownBlock = some g → w'.heap[g]? = w.heap[g]?) : OwnB w' B v xs := by
  obtain ⟨⟨h1, h2⟩, h3⟩ := h
  refine ⟨⟨h1, ?_⟩, h3⟩
  rcases h2 with h2 | ⟨g', cap', cur, rfl, hg, hr, h4⟩
  · exact Or.inl h2
  · exact Or.inr ⟨_, _, cur, rfl, hg, (hs _ rfl).trans hr, h4⟩
theorem OwnB.shape {w : World} {B : Nat} {v : Value} {xs : List Nat} (h : OwnB w B v xs) : ∃ p n cap, v = .slice p n cap := by
  rcases h.cases with ⟨rfl, _⟩ | ⟨g, cap, rfl, _⟩
  · exact ⟨_, _, _, rfl⟩
  · exact ⟨_, _, _, rfl⟩
theorem OwnB.block {w : World} {B g : Nat} {v : Value} {xs : List Nat} (h : OwnB w B v xs) (hg : v.ownBlock = some g) : B ≤ g ∧ g < w.heap.size := h.1.lt g hg
theorem OwnB.grow {w w' : World} {B : Nat} {v : Value} {xs : List Nat} (h : OwnB w B v xs) (hb : Below w.heap.size w w') : OwnB w' B v xs := h.same fun g hg => hb.block g (h.block hg).2
theorem Only.of_below {rb B : Nat} {w w' : World} (h : Below B w w') : Only rb B w w' := ⟨h.os, h.tape, h.output, h.size, fun k hk _ => h.block k hk⟩
theorem Only.trans {rb B B' : Nat} {w w1 w2 : World} (h : Only rb B w w1) (h2 : Only rb B' w1 w2) (hs : B ≤ B') : Only rb B w w2 :=
  ⟨h2.os.trans h.os, h2.tape.trans h.tape, h2.output.trans h.output, Nat.le_trans h.size h2.size, fun k hk hne => (h2.block k (by omega) hne).trans (h.block k hk hne)⟩
theorem wr_next {w1 : World} {wb B : Nat} {v v3 : Value} {ys : List Nat} (hr : w1.heap[wb]? = some (.cells #[v] 154)) (ho : OwnB w1 B v3 ys) (hB : wb + 1 ≤ B) :
    WrAt (w1.setCell ⟨wb, 0, none⟩ v3) wb ys :=
  ⟨v3, heap_setCell hr _, (ho.base hB).same (fun g hg => Below.heap_setCell w1 ⟨wb, 0, none⟩ _ g (fun e => by have h1 : g = wb := e; have := (ho.block hg).1; omega))⟩

set_option maxRecDepth 100000 in
theorem wNumber_any (wb lb lo lc m : Nat) (zs : List Int) (xs : List Nat) (w : World) (hw : WrAt w wb xs) (hn : xs.length ≤ 900000) (hz : ∀ z ∈ zs, 0 ≤ z ∧ z ≤ 4611686018427387903) (hm : zs.length = m) (hzl : m ≤ 10)
    (hl : ∀ i, i < m → w.cell? ⟨lb, lo + i, none⟩ = some (.int .i64 (zs.getD i 0))) (hlb : lb < w.heap.size) (hne : lb ≠ wb) :
    Calls Try.prog 116 #[.pointer (some ⟨wb, 0, none⟩), .slice (some ⟨lb, lo, none⟩) m lc] w fun e w' => e = .returned (.tuple #[]) ∧ WrAt w' wb (xs ++ encs encU zs) ∧ Only wb w.heap.size w w' := by
  have HW := hid hw
  have HZ := hid hz
  have HL := hid hl
  have HM := hid hm
  clear hw hz hl hm
  go_enter Try.func116, Try.ntmps116
  go_wp2_with fail
  go_loopw [8] (fun i wr => ∃ (k : Nat) (ys : List Nat), k ≤ m ∧ i = .int .i64 k ∧ ys = xs ++ encs encU (zs.take k) ∧ WrAt wr wb ys ∧ Only wb w.heap.size w wr) (fun i _ => m - (intOf i).toNat)
  case atStart => exact ⟨0, xs, by omega, rfl, by simp [encs], HW.out, Only.refl _ _ _⟩
  case round =>
    obtain ⟨k, ys, hk, rfl, he, hw2, hO⟩ := hrel
    have HO2 := hid hO
    have HE := hid he
    by_cases hlt : k < m
    · have hkz : k < zs.length := by rw [HM.out]; exact hlt
      have hc : wr.cell? ⟨lb, lo + k, none⟩ = some (.int .i64 zs[k]) := by
        rw [World.cell?_of_block (w := w) (w' := wr) (a := ⟨lb, lo + k, none⟩) (hO.block lb hlb hne), ← show zs.getD k 0 = zs[k] by simp [List.getD_eq_getElem?_getD, hkz]]; exact HL.out k hlt
      have hzk := HZ.out zs[k] (List.getElem_mem hkz)
      have hyb : ys.length ≤ 1000000 := by
        have h1 := encs_len (f := encU) (m := 9) (zs.take k) (fun z hz => nat_len (HZ.out z (List.mem_of_mem_take hz)))
        rw [he, List.length_append]
        have h2 : (zs.take k).length ≤ 10 := by simp; omega
        omega
      have HST := hid (show xs ++ encs encU (zs.take (k + 1)) = ys ++ encU zs[k] by rw [encs_step hkz, he]; simp)
      obtain ⟨v2, hr, hown⟩ := hw2
      obtain ⟨p2, n2, c2, rfl⟩ := hown.shape
      have HR := hid hr
      have HO3 := hid hown
      have c0 : wr.cell? ⟨wb, 0, none⟩ = some (.slice p2 n2 c2) := by simp [World.cell?, hr]
      have hwb : wb < wr.heap.size := (Array.getElem?_eq_some_iff.1 hr).1
      clear he hO hr hown
      generalize zs[k] = z at *
      go_wp2_with fail
      obtain ⟨q, rfl⟩ : ∃ q : Nat, z = q := ⟨z.toNat, by omega⟩
      refine (xNumber_own (z := q) (HO3.out.base (Nat.zero_le _)) hyb (by omega)).mono ?_
      rintro r w1 ⟨⟨v3, rfl, hown3⟩, hb⟩
      obtain ⟨p3, n3, c3, rfl⟩ := hown3.shape
      have HB3 := hid hb
      have HR1 := hid (heap_still hb HR.out)
      have HO4 := hid hown3
      have d0 : w1.cell? ⟨wb, 0, none⟩ = some (.slice p2 n2 c2) := by have hh := HR1.out; simp [World.cell?, hh]
      have df : w1.frozen? ⟨wb, 0, none⟩ = false := by have hh := HR1.out; simp [World.frozen?, hh]
      have hs1 := hb.size
      clear hb hown3
      go_wp2_with fail
      go_roundw
      case rel => exact ⟨k + 1, _, by omega, by go_num, HST.out.symm, wr_next HR1.out HO4.out (by omega), only_setCell (HO2.out.trans (Only.of_below HB3.out) HO2.out.size) _⟩
      case measure => simp [intOf]; omega
    · obtain rfl : k = m := by omega
      have HF := hid (show xs ++ encs encU zs = ys by rw [he, List.take_of_length_le (Nat.le_of_eq HM.out)])
      have HW2 := hid hw2
      clear he hO hw2
      go_wp2_with fail
      go_end0
      rw [HF.out]
      exact ⟨rfl, HW2.out, HO2.out⟩
set_option maxRecDepth 100000 in
theorem wSigned_any (wb lb lo lc m : Nat) (zs : List Int) (xs : List Nat) (w : World) (hw : WrAt w wb xs) (hn : xs.length ≤ 900000) (hz : ∀ z ∈ zs, -2305843009213693952 ≤ z ∧ z ≤ 2305843009213693951) (hm : zs.length = m) (hzl : m ≤ 10)
    (hl : ∀ i, i < m → w.cell? ⟨lb, lo + i, none⟩ = some (.int .i64 (zs.getD i 0))) (hlb : lb < w.heap.size) (hne : lb ≠ wb) :
    Calls Try.prog 138 #[.pointer (some ⟨wb, 0, none⟩), .slice (some ⟨lb, lo, none⟩) m lc] w fun e w' => e = .returned (.tuple #[]) ∧ WrAt w' wb (xs ++ encs encS zs) ∧ Only wb w.heap.size w w' := by
  have HW := hid hw
  have HZ := hid hz
  have HL := hid hl
  have HM := hid hm
  clear hw hz hl hm
  go_enter Try.func138, Try.ntmps138
  go_wp2_with fail
  go_loopw [8] (fun i wr => ∃ (k : Nat) (ys : List Nat), k ≤ m ∧ i = .int .i64 k ∧ ys = xs ++ encs encS (zs.take k) ∧ WrAt wr wb ys ∧ Only wb w.heap.size w wr) (fun i _ => m - (intOf i).toNat)
  case atStart => exact ⟨0, xs, by omega, rfl, by simp [encs], HW.out, Only.refl _ _ _⟩
  case round =>
    obtain ⟨k, ys, hk, rfl, he, hw2, hO⟩ := hrel
    have HO2 := hid hO
    have HE := hid he
    by_cases hlt : k < m
    · have hkz : k < zs.length := by rw [HM.out]; exact hlt
      have hc : wr.cell? ⟨lb, lo + k, none⟩ = some (.int .i64 zs[k]) := by
        rw [World.cell?_of_block (w := w) (w' := wr) (a := ⟨lb, lo + k, none⟩) (hO.block lb hlb hne), ← show zs.getD k 0 = zs[k] by simp [List.getD_eq_getElem?_getD, hkz]]; exact HL.out k hlt
      have hzk := HZ.out zs[k] (List.getElem_mem hkz)
      have hyb : ys.length ≤ 1000000 := by
        have h1 := encs_len (f := encS) (m := 9) (zs.take k) (fun z hz => zig_len (HZ.out z (List.mem_of_mem_take hz)))
        rw [he, List.length_append]
        have h2 : (zs.take k).length ≤ 10 := by simp; omega
        omega
      have HST := hid (show xs ++ encs encS (zs.take (k + 1)) = ys ++ encS zs[k] by rw [encs_step hkz, he]; simp)
      obtain ⟨v2, hr, hown⟩ := hw2
      obtain ⟨p2, n2, c2, rfl⟩ := hown.shape
      have HR := hid hr
      have HO3 := hid hown
      have c0 : wr.cell? ⟨wb, 0, none⟩ = some (.slice p2 n2 c2) := by simp [World.cell?, hr]
      have hwb : wb < wr.heap.size := (Array.getElem?_eq_some_iff.1 hr).1
      clear he hO hr hown
      generalize zs[k] = z at *
      go_wp2_with fail
      refine (xSigned_own (HO3.out.base (Nat.zero_le _)) hyb hzk).mono ?_
      rintro r w1 ⟨⟨v3, rfl, hown3⟩, hb⟩
      obtain ⟨p3, n3, c3, rfl⟩ := hown3.shape
      have HB3 := hid hb
      have HR1 := hid (heap_still hb HR.out)
      have HO4 := hid hown3
      have d0 : w1.cell? ⟨wb, 0, none⟩ = some (.slice p2 n2 c2) := by have hh := HR1.out; simp [World.cell?, hh]
      have df : w1.frozen? ⟨wb, 0, none⟩ = false := by have hh := HR1.out; simp [World.frozen?, hh]
      have hs1 := hb.size
      clear hb hown3
      go_wp2_with fail
      go_roundw
      case rel => exact ⟨k + 1, _, by omega, by go_num, HST.out.symm, wr_next HR1.out HO4.out (by omega), only_setCell (HO2.out.trans (Only.of_below HB3.out) HO2.out.size) _⟩
      case measure => simp [intOf]; omega
    · obtain rfl : k = m := by omega
      have HF := hid (show xs ++ encs encS zs = ys by rw [he, List.take_of_length_le (Nat.le_of_eq HM.out)])
      have HW2 := hid hw2
      clear he hO hw2
      go_wp2_with fail
      go_end0
      rw [HF.out]
      exact ⟨rfl, HW2.out, HO2.out⟩
end Go.Proofs.Yteanlcefdoigcaa
