/- The reference's refusal (125); its Clean (66) and Parts (70) where it refuses. (Printed by wip/gen_ste.py.) The reference's Clean (66). (Printed by wip/gen_ste.py.) -/
import Derived.Test.YteoikaedpgianaaRRefuse
import Derived.Test.YteoikaedpgianaaRValid
import Derived.Test.YteoikaedpgianaaRStD
namespace Go.Proofs.Yteoikaedpgianaa
open Go.RowKit

set_option maxRecDepth 100000 in
set_option maxHeartbeats 1600000 in
theorem rRefuse_any (ad : Option Addr) (n c : Nat) (F : Nat → Nat → Int) (m0 m1 m2 m3 : Int) (w : World) (hn : n ≤ 9223372036854775807) (ht : fixRow w ad n F) :
    Calls Try.prog 125 #[.slice ad n c, .agg #[.int .i64 m0, .int .i64 m1, .int .i64 m2, .int .i64 m3]] w fun e w' => e = .returned (.int .i64 (refV m0 m1 m2 m3 n F)) ∧ Below w.heap.size w w' := by
  have HBw := hid (Below.refl w.heap.size w)
  by_cases hr : rulesB m0 m1 m2 m3 = true
  · have HR := hid hr
    have HT := hid ht
    clear ht hr
    go_enter Try.func125, Try.ntmps125
    go_wp2_with fail
    refine (rRules_any _ _ _ _ _).mono ?_
    rintro r w1 ⟨rfl, hb⟩
    have HBw1 := hid (show Below w.heap.size w w1 by have hB0 := HBw.out; refine Below.trans ?_ (hb.mono ?_); (focus ((repeat' (first | (with_reducible exact Below.refl _ _) | (with_reducible assumption) | (with_reducible refine Below.alloc ?_ ?_ _) | (with_reducible refine Below.drew ?_) | (with_reducible refine below_drewN ?_ _) | (with_reducible refine Below.setCell ?_ ?_ _) | (with_reducible refine below_setRow ?_ ?_ _) | go_size)); done)); (focus (first | (simp; done) | (simp; omega) | (have hB1 := hB0.size; simp; omega))))
    have hsw1 := hb.size
    (try simp at hsw1)
    have hzw1 : w.heap.size < w1.heap.size := by omega
    obtain ⟨hcw1, hfw1⟩ := bcell hb
    have hkw1 := hid (fun n x => @heap_still _ _ n x hb)
    clear hb
    rw [HR.out]
    have hy1 : w.heap.size < w1.heap.size := by omega
    go_wp2_with fail
    go_loopw [12] (fun i W => ∃ (k : Nat), k ≤ n ∧ i = .int .i64 k ∧ allN (fun i => fixF (F i)) k = true ∧ Below w.heap.size w W ∧ w.heap.size < W.heap.size) (fun i _ => n - (intOf i).toNat)
    case atStart => exact ⟨0, by omega, rfl, rfl, HBw1.out, hy1⟩
    case round =>
      clear hcw1 hfw1 hkw1 HBw1 hsw1 hzw1 hy1
      obtain ⟨k, hk, rfl, hall, hB, hsz⟩ := hrel
      have HBwr := hid hB
      have HA := hid hall
      by_cases hlt : k < n
      · obtain ⟨b, off, hadd, hbw, hrec⟩ := HT.out (by omega)
        subst hadd
        have hrq := hrec.still hB hbw k hlt
        have HFF := hid (fun bb (h : fixB (F k 0) (F k 1) (F k 2) (F k 3) (F k 4) (F k 5) (F k 6) (F k 7) (F k 8) (F k 9) = bb) => (show fixF (F k) = bb from h))
        have HN := hid (fun h : fixF (F k) = true => allN_next (p := fun i => fixF (F i)) HA.out h)
        have HX := hid (fun h : fixF (F k) = false => refV_fix (m0 := m0) (m1 := m1) (m2 := m2) (m3 := m3) HR.out hlt h)
        clear hrec hB hall
        have c0 := hrq 0 (by omega)
        simp only [Nat.add_zero] at c0
        have c1 := hrq 1 (by omega)
        have c2 := hrq 2 (by omega)
        have c3 := hrq 3 (by omega)
        have c4 := hrq 4 (by omega)
        have c5 := hrq 5 (by omega)
        have c6 := hrq 6 (by omega)
        have c7 := hrq 7 (by omega)
        have c8 := hrq 8 (by omega)
        have c9 := hrq 9 (by omega)
        clear hrq
        generalize F k 0 = f0 at *
        generalize F k 1 = f1 at *
        generalize F k 2 = f2 at *
        generalize F k 3 = f3 at *
        generalize F k 4 = f4 at *
        generalize F k 5 = f5 at *
        generalize F k 6 = f6 at *
        generalize F k 7 = f7 at *
        generalize F k 8 = f8 at *
        generalize F k 9 = f9 at *
        by_cases hf : fixB f0 f1 f2 f3 f4 f5 f6 f7 f8 f9 = true
        · have HF := hid hf
          have HNN := hid (HN.out (HFF.out _ hf))
          clear hf
          go_wp2_with (first | (refine wpList_store_new rfl 55 (.tmp 6) (.tmp 15) rfl rfl rfl rfl size55 rfl rfl rfl ?_) | (refine wpList_load_at rfl 55 (.tmp 6) rfl rfl (heap_alloc_at _ _ _ rfl) Try.underlying55 rfl size55 rfl ?_))
          refine (rFix_any _ _ _ _ _ _ _ _ _ _ _).mono ?_
          rintro r w2 ⟨rfl, hb⟩
          have HBw2 := hid (show Below w.heap.size w w2 by have hB0 := HBwr.out; refine Below.trans ?_ (hb.mono ?_); (focus ((repeat' (first | (with_reducible exact Below.refl _ _) | (with_reducible assumption) | (with_reducible refine Below.alloc ?_ ?_ _) | (with_reducible refine Below.drew ?_) | (with_reducible refine below_drewN ?_ _) | (with_reducible refine Below.setCell ?_ ?_ _) | (with_reducible refine below_setRow ?_ ?_ _) | go_size)); done)); (focus (first | (simp; done) | (simp; omega) | (have hB1 := hB0.size; simp; omega))))
          have hsw2 := hb.size
          (try simp at hsw2)
          have hzw2 : w.heap.size < w2.heap.size := by omega
          obtain ⟨hcw2, hfw2⟩ := bcell hb
          have hkw2 := hid (fun n x => @heap_still _ _ n x hb)
          clear hb
          rw [HF.out]
          have hy2 : w.heap.size < w2.heap.size := by omega
          go_wp2_with fail
          go_roundw
          case rel => exact ⟨k + 1, by omega, by go_num, HNN.out, HBw2.out, hy2⟩
          case measure => simp [intOf]; omega
        · have HF := hid (Bool.eq_false_iff.2 hf)
          have HXX := hid (HX.out (HFF.out _ HF.out))
          clear hf
          go_wp2_with (first | (refine wpList_store_new rfl 55 (.tmp 6) (.tmp 15) rfl rfl rfl rfl size55 rfl rfl rfl ?_) | (refine wpList_load_at rfl 55 (.tmp 6) rfl rfl (heap_alloc_at _ _ _ rfl) Try.underlying55 rfl size55 rfl ?_))
          refine (rFix_any _ _ _ _ _ _ _ _ _ _ _).mono ?_
          rintro r w2 ⟨rfl, hb⟩
          have HBw2 := hid (show Below w.heap.size w w2 by have hB0 := HBwr.out; refine Below.trans ?_ (hb.mono ?_); (focus ((repeat' (first | (with_reducible exact Below.refl _ _) | (with_reducible assumption) | (with_reducible refine Below.alloc ?_ ?_ _) | (with_reducible refine Below.drew ?_) | (with_reducible refine below_drewN ?_ _) | (with_reducible refine Below.setCell ?_ ?_ _) | (with_reducible refine below_setRow ?_ ?_ _) | go_size)); done)); (focus (first | (simp; done) | (simp; omega) | (have hB1 := hB0.size; simp; omega))))
          have hsw2 := hb.size
          (try simp at hsw2)
          have hzw2 : w.heap.size < w2.heap.size := by omega
          obtain ⟨hcw2, hfw2⟩ := bcell hb
          have hkw2 := hid (fun n x => @heap_still _ _ n x hb)
          clear hb
          rw [HF.out]
          have hy2 : w.heap.size < w2.heap.size := by omega
          go_wp2_with fail
          go_ret
          exact ⟨by rw [HXX.out]; rfl, HBw2.out⟩
      · obtain rfl : k = n := by omega
        clear hB hall
        by_cases h4 : 4096 < k
        · have HX := hid (refV_many (m0 := m0) (m1 := m1) (m2 := m2) (m3 := m3) HR.out HA.out h4)
          have h5 : (4096 : Int) < k := by omega
          go_wp2_with fail
          go_ret
          exact ⟨by rw [HX.out]; rfl, HBwr.out⟩
        · have HX := hid (refV_ok (m0 := m0) (m1 := m1) (m2 := m2) (m3 := m3) HR.out HA.out h4)
          have h5 : ¬ (4096 : Int) < k := by omega
          go_wp2_with fail
          go_ret
          exact ⟨by rw [HX.out]; rfl, HBwr.out⟩
  · have HR := hid (Bool.eq_false_iff.2 hr)
    have HX := hid (refV_rules (n := n) (F := F) HR.out)
    clear hr ht
    go_enter Try.func125, Try.ntmps125
    go_wp2_with fail
    refine (rRules_any _ _ _ _ _).mono ?_
    rintro r w1 ⟨rfl, hb⟩
    have HBw1 := hid (show Below w.heap.size w w1 by have hB0 := HBw.out; refine Below.trans ?_ (hb.mono ?_); (focus ((repeat' (first | (with_reducible exact Below.refl _ _) | (with_reducible assumption) | (with_reducible refine Below.alloc ?_ ?_ _) | (with_reducible refine Below.drew ?_) | (with_reducible refine below_drewN ?_ _) | (with_reducible refine Below.setCell ?_ ?_ _) | (with_reducible refine below_setRow ?_ ?_ _) | go_size)); done)); (focus (first | (simp; done) | (simp; omega) | (have hB1 := hB0.size; simp; omega))))
    have hsw1 := hb.size
    (try simp at hsw1)
    have hzw1 : w.heap.size < w1.heap.size := by omega
    obtain ⟨hcw1, hfw1⟩ := bcell hb
    have hkw1 := hid (fun n x => @heap_still _ _ n x hb)
    clear hb
    rw [HR.out]
    go_wp2_with fail
    go_ret
    exact ⟨by rw [HX.out]; rfl, HBw1.out⟩

set_option maxRecDepth 100000 in
theorem rClean_err (ad : Option Addr) (n c : Nat) (F : Nat → Nat → Int) (m0 m1 m2 m3 : Int) (w : World) (hn : n ≤ 9223372036854775807) (ht : fixRow w ad n F) (he : refV m0 m1 m2 m3 n F ≠ 0) :
    Calls Try.prog 66 #[.slice ad n c, .agg #[.int .i64 m0, .int .i64 m1, .int .i64 m2, .int .i64 m3]] w fun e w' => e = .returned (.tuple #[.slice none 0 0, .slice none 0 0, .int .i64 (refV m0 m1 m2 m3 n F)]) ∧ Below w.heap.size w w' := by
  have HBw := hid (Below.refl w.heap.size w)
  have HT := hid (fun W (h : Below w.heap.size w W) => rRefuse_any ad n c F m0 m1 m2 m3 W hn (ht.still h))
  clear ht
  generalize refV m0 m1 m2 m3 n F = E at *
  have hd : decide (E = 0) = false := by simp [he]
  go_enter Try.func66, Try.ntmps66
  go_wp2_with fail
  have hB9 := HBw.out
  refine (HT.out _ (by (repeat' (first | (with_reducible exact Below.refl _ _) | (with_reducible assumption) | (with_reducible refine Below.alloc ?_ ?_ _) | (with_reducible refine Below.drew ?_) | (with_reducible refine below_drewN ?_ _) | (with_reducible refine Below.setCell ?_ ?_ _) | (with_reducible refine below_setRow ?_ ?_ _) | go_size)))).mono ?_
  rintro r w1 ⟨rfl, hb⟩
  have HBw1 := hid (show Below w.heap.size w w1 by have hB0 := HBw.out; refine Below.trans ?_ (hb.mono ?_); (focus ((repeat' (first | (with_reducible exact Below.refl _ _) | (with_reducible assumption) | (with_reducible refine Below.alloc ?_ ?_ _) | (with_reducible refine Below.drew ?_) | (with_reducible refine below_drewN ?_ _) | (with_reducible refine Below.setCell ?_ ?_ _) | (with_reducible refine below_setRow ?_ ?_ _) | go_size)); done)); (focus (first | (simp; done) | (simp; omega) | (have hB1 := hB0.size; simp; omega))))
  have hsw1 := hb.size
  (try simp at hsw1)
  have hzw1 : w.heap.size < w1.heap.size := by omega
  obtain ⟨hcw1, hfw1⟩ := bcell hb
  have hkw1 := hid (fun n x => @heap_still _ _ n x hb)
  clear hb
  clear hB9
  go_wp2_with fail
  go_ret3
  exact ⟨rfl, HBw1.out⟩
set_option maxRecDepth 100000 in
theorem rParts_err (ad : Option Addr) (n c : Nat) (F : Nat → Nat → Int) (m0 m1 m2 m3 : Int) (w : World) (hn : n ≤ 9223372036854775807) (ht : fixRow w ad n F) (he : refV m0 m1 m2 m3 n F ≠ 0) :
    Calls Try.prog 70 #[.slice ad n c, .agg #[.int .i64 m0, .int .i64 m1, .int .i64 m2, .int .i64 m3]] w fun e w' => e = .returned (.tuple #[.agg #[.slice none 0 0], .int .i64 (refV m0 m1 m2 m3 n F)]) ∧ Below w.heap.size w w' := by
  have HBw := hid (Below.refl w.heap.size w)
  have HT := hid (fun W (h : Below w.heap.size w W) => rRefuse_any ad n c F m0 m1 m2 m3 W hn (ht.still h))
  clear ht
  generalize refV m0 m1 m2 m3 n F = E at *
  have hd : decide (E = 0) = false := by simp [he]
  go_enter Try.func70, Try.ntmps70
  go_wp2_with fail
  have hB9 := HBw.out
  refine (HT.out _ (by (repeat' (first | (with_reducible exact Below.refl _ _) | (with_reducible assumption) | (with_reducible refine Below.alloc ?_ ?_ _) | (with_reducible refine Below.drew ?_) | (with_reducible refine below_drewN ?_ _) | (with_reducible refine Below.setCell ?_ ?_ _) | (with_reducible refine below_setRow ?_ ?_ _) | go_size)))).mono ?_
  rintro r w1 ⟨rfl, hb⟩
  have HBw1 := hid (show Below w.heap.size w w1 by have hB0 := HBw.out; refine Below.trans ?_ (hb.mono ?_); (focus ((repeat' (first | (with_reducible exact Below.refl _ _) | (with_reducible assumption) | (with_reducible refine Below.alloc ?_ ?_ _) | (with_reducible refine Below.drew ?_) | (with_reducible refine below_drewN ?_ _) | (with_reducible refine Below.setCell ?_ ?_ _) | (with_reducible refine below_setRow ?_ ?_ _) | go_size)); done)); (focus (first | (simp; done) | (simp; omega) | (have hB1 := hB0.size; simp; omega))))
  have hsw1 := hb.size
  (try simp at hsw1)
  have hzw1 : w.heap.size < w1.heap.size := by omega
  obtain ⟨hcw1, hfw1⟩ := bcell hb
  have hkw1 := hid (fun n x => @heap_still _ _ n x hb)
  clear hb
  clear hB9
  have B1 := hid (hkw1.out _ _ (by repeat' (first | (refine heap_alloc_at _ _ _ ?_; (first | rfl | (simp; done) | (simp; omega))) | (refine heap_alloc_past _ _ _ _ ?_))) : w1.heap[w.heap.size + 1]? = some (.cells #[.slice none 0 0] 64))
  go_wp2_with (refine wpList_store_at rfl 64 (.tmp 4) (.tmp 18) rfl rfl rfl B1.out size64 rfl rfl rfl ?_)
  refine bodyPost_ret (results_at2 rfl rfl (setRow_heap _ _ _ _ _ _ B1.out) Try.underlying64 rfl size64 rfl) rfl ?_
  exact ⟨rfl, below_setRow HBw1.out (by omega) _⟩
end Go.Proofs.Yteoikaedpgianaa
namespace Go.Proofs.Yteoikaedpgianaa
open Go.RowKit Go.Sort Go.Lib Go.Shelf Go.Proofs

theorem rrun_three (t : Fx → Int) (near : Fx → Fx → Bool) (L : List Fx) : ∀ (m j : Nat), (rrunG t near L m).out j = 0 ∨ (rrunG t near L m).out j = 1 ∨ (rrunG t near L m).out j = 2
  | 0, _ => .inl rfl
  | m + 1, j => by
    have h := rrun_three t near L m
    show (rstepG t near L (rrunG t near L m) m).out j = 0 ∨ (rstepG t near L (rrunG t near L m) m).out j = 1 ∨ (rstepG t near L (rrunG t near L m) m).out j = 2
    generalize rrunG t near L m = s at *
    have hu : ∀ (f : Nat → Int) (p : Nat) (v : Int), (v = 0 ∨ v = 1 ∨ v = 2) → (∀ q, f q = 0 ∨ f q = 1 ∨ f q = 2) → ∀ q, updG f p v q = 0 ∨ updG f p v q = 1 ∨ updG f p v q = 2 := fun f p v hv hf q => by
      unfold updG
      split
      · exact hv
      · exact hf q
    unfold rstepG
    split
    · exact hu _ _ _ (by decide) h j
    · split
      · exact h j
      · split
        · unfold rowDone
          split
          · exact hu _ _ _ (by decide) (hu _ _ _ (by decide) (hu _ _ _ (by decide) (hu _ _ _ (by decide) h))) j
          · exact h j
        · exact hu _ _ _ (by decide) h j
theorem keptR_len {L : List Fx} {o : Nat → Int} : ∀ m, (keptR L o m).length ≤ m
  | 0 => Nat.le_refl _
  | m + 1 => by
    have := keptR_len (L := L) (o := o) m
    rw [keptR, List.length_append]
    have h2 : (if o m = 0 then L[m]?.toList else []).length ≤ 1 := by
      split
      · cases L[m]? <;> simp
      · simp
    omega
theorem issR_len {L : List Fx} {o : Nat → Int} {j : Nat → Bool} : ∀ m, (issR Fx.t L o j m).length ≤ m
  | 0 => Nat.le_refl _
  | m + 1 => by
    have := issR_len (L := L) (o := o) (j := j) m
    rw [issR, List.length_append]
    refine Nat.add_le_add this ?_
    split
    · simp
    · unfold issOne; split
      · split <;> simp
      · split <;> simp
theorem nodup_len : ∀ {E xs : List Fx}, E.Nodup → (∀ x ∈ E, x ∈ xs) → E.length ≤ xs.length
  | [], _, _, _ => Nat.zero_le _
  | a :: E, xs, h, hs => by
    have h1 := hs a (List.mem_cons_self ..)
    have h2 := nodup_len (E := E) (xs := xs.erase a) (List.nodup_cons.1 h).2 (fun x hx => (List.mem_erase_of_ne (fun e => (List.nodup_cons.1 h).1 (by rw [← e]; exact hx))).2 (hs x (List.mem_cons_of_mem _ hx)))
    rw [List.length_erase_of_mem h1] at h2
    have h3 := List.length_pos_of_mem h1
    rw [List.length_cons]
    omega
theorem OwnI2.iss {W : World} {B : Nat} {v : Value} {Z : List (Int × Int)} (h : OwnI2 W B v Z) : IssV W v Z := by
  obtain ⟨a, c, hv⟩ := OwnR.slice h
  rw [List.length_map] at hv
  by_cases hz : Z = []
  · subst hz; subst hv; exact .inl ⟨a, c, rfl, rfl⟩
  · obtain ⟨g, cap, C, e, _, hC, hr, _⟩ := OwnR.rows (show OwnR W B 124 2 v (Z.map irow) from h) (by rw [List.length_map]; exact List.length_pos_iff.2 hz)
    rw [hv] at e
    injection e with e1 e2 e3
    subst hv
    subst e1
    exact .inr ⟨g, c, rfl, (Array.getElem?_eq_some_iff.1 hC).1, hr⟩
set_option maxRecDepth 100000 in
set_option maxHeartbeats 6400000 in
theorem rClean_ok (v : Value) (xs : List Fx) (m0 m1 m2 m3 : Int) (w : World) (hv : FxV w v xs) (hn : xs.length ≤ 1000) (hr : rulesB m0 m1 m2 m3 = true) (hok : ∀ p ∈ xs, p.ok = true) :
    Calls Try.prog 66 #[v, .agg #[.int .i64 m0, .int .i64 m1, .int .i64 m2, .int .i64 m3]] w fun r w' => (∃ kv iv E, r = .returned (.tuple #[kv, iv, .int .i64 0]) ∧ E.Nodup ∧ (∀ x, x ∈ E ↔ x ∈ xs) ∧ timesUp Fx.t E ∧ OwnF w' w.heap.size kv (keptR E (rrunG Fx.t (nearB m1) E E.length).out E.length) ∧ IssV w' iv (issR Fx.t E (rrunG Fx.t (nearB m1) E E.length).out (rrunG Fx.t (nearB m1) E E.length).jmp E.length)) ∧ Below w.heap.size w w' := by
  have hm : 0 ≤ m1 ∧ m1 ≤ 1000000 := by simp [rulesB, inB] at hr; omega
  obtain ⟨ad, c, rfl, hrow⟩ := hv.open
  have HV := hid hv
  have HT := hid (show ∀ W, Below w.heap.size w W → Calls Try.prog 125 #[.slice ad xs.length c, .agg #[.int .i64 m0, .int .i64 m1, .int .i64 m2, .int .i64 m3]] W fun e w' => e = .returned (.int .i64 0) ∧ Below W.heap.size W w' from fun W h => by
    have h9 := rRefuse_any ad xs.length c (fixesF xs) m0 m1 m2 m3 W (by omega) (hrow.still h)
    rwa [show refV m0 m1 m2 m3 xs.length (fixesF xs) = 0 from refL_ok hr hok (by omega)] at h9)
  have HOK := hid hok
  have HBw := hid (Below.refl w.heap.size w)
  clear hv hrow hok hr
  obtain ⟨n, hnn⟩ : ∃ n, n = xs.length := ⟨_, rfl⟩
  rw [← hnn] at HT HV hn ⊢
  have HN := hid hnn
  clear hnn
  obtain ⟨i0, hinf, hz0, hz1, hz2⟩ := info_parts info55f
  have HI := hid hinf
  have HZ0 := hid hz0
  have HZ1 := hid hz1
  have HZ2 := hid hz2
  clear hinf hz0 hz1 hz2
  obtain ⟨j0, hinf, hz0, hz1, hz2⟩ := info_parts info124f
  have HJ := hid hinf
  have HJ0 := hid hz0
  have HJ1 := hid hz1
  have HJ2 := hid hz2
  clear hinf hz0 hz1 hz2
  go_enter Try.func66, Try.ntmps66
  go_wp2_with fail
  have hB9 := HBw.out
  refine (HT.out _ (by (repeat' (first | (with_reducible exact Below.refl _ _) | (with_reducible assumption) | (with_reducible refine Below.alloc ?_ ?_ _) | (with_reducible refine Below.drew ?_) | (with_reducible refine below_drewN ?_ _) | (with_reducible refine Below.setCell ?_ ?_ _) | (with_reducible refine below_setRow ?_ ?_ _) | go_size)))).mono ?_
  rintro r w1 ⟨rfl, hb⟩
  have HBw1 := hid (show Below w.heap.size w w1 by have hB0 := HBw.out; refine Below.trans ?_ (hb.mono ?_); (focus ((repeat' (first | (with_reducible exact Below.refl _ _) | (with_reducible assumption) | (with_reducible refine Below.alloc ?_ ?_ _) | (with_reducible refine Below.drew ?_) | (with_reducible refine below_drewN ?_ _) | (with_reducible refine Below.setCell ?_ ?_ _) | (with_reducible refine below_setRow ?_ ?_ _) | go_size)); done)); (focus (first | (simp; done) | (simp; omega) | (have hB1 := hB0.size; simp; omega))))
  have hsw1 := hb.size
  (try simp at hsw1)
  have hzw1 : w.heap.size < w1.heap.size := by omega
  obtain ⟨hcw1, hfw1⟩ := bcell hb
  have hkw1 := hid (fun n x => @heap_still _ _ n x hb)
  clear hb
  clear hB9
  have HM1 := hid (hkw1.out _ _ (by repeat' (first | (refine heap_alloc_at _ _ _ ?_; (first | rfl | (simp; done) | (simp; omega))) | (refine heap_alloc_past _ _ _ _ ?_))) : w1.heap[w.heap.size]? = some (.cells #[.int .i64 m0, .int .i64 m1, .int .i64 m2, .int .i64 m3] 61))
  have HS1 := hid hzw1
  go_wp2_with fail
  refine (distinct_any _ xs w1 (HV.out.still HBw1.out) (by rw [← HN.out]; exact hn)).mono ?_
  rintro r wd ⟨⟨v2, E, rfl, ho2, hnd, hmem, htu⟩, hbd⟩
  have HO2 := hid ho2
  have HND := hid hnd
  have HMEM := hid hmem
  have HTU := hid htu
  have HBD := hid (HBw1.out.trans (hbd.mono HBw1.out.size))
  have HMD := hid (heap_still hbd HM1.out)
  have hzd : w.heap.size < wd.heap.size := by have h1 := HS1.out; have h2 := hbd.size; omega
  have hel : E.length ≤ 1000 := by
    have h1 := nodup_len hnd (fun x hx => (hmem x).1 hx)
    rw [← HN.out] at h1; omega
  clear ho2 hnd hmem htu hbd HBw1 hsw1 hzw1 hkw1 hcw1 hfw1 HT HM1
  obtain ⟨ea, ec, hev⟩ := OwnR.slice HO2.out
  rw [List.length_map] at hev
  obtain ⟨en, hen⟩ : ∃ en, en = E.length := ⟨_, rfl⟩
  rw [← hen] at hev hel
  subst hev
  have HEN := hid hen
  clear hen
  have cm0 : wd.cell? ⟨w.heap.size, 0, none⟩ = some (.int .i64 m0) := (cell_row (j := 0) HMD.out).trans rfl
  have cm1 : wd.cell? ⟨w.heap.size, 1, none⟩ = some (.int .i64 m1) := (cell_row (j := 1) HMD.out).trans rfl
  have cm2 : wd.cell? ⟨w.heap.size, 2, none⟩ = some (.int .i64 m2) := (cell_row (j := 2) HMD.out).trans rfl
  have cm3 : wd.cell? ⟨w.heap.size, 3, none⟩ = some (.int .i64 m3) := (cell_row (j := 3) HMD.out).trans rfl
  go_wp2_with fail
  clear cm0 cm1 cm2 cm3
  have h127 := states_any (.slice ea en ec) E m0 m1 m2 m3 wd (OwnF.fxV HO2.out) (by rw [← HEN.out]; exact hel) (fun p hp => HOK.out p ((HMEM.out p).1 hp)) hm
  rw [← HEN.out] at h127
  refine h127.mono ?_
  clear h127
  rintro r W2 ⟨⟨go, gj, rfl, hro, hrj⟩, hb2⟩
  obtain ⟨out, hout⟩ : ∃ out, out = (rrunG Fx.t (nearB m1) E en).out := ⟨_, rfl⟩
  obtain ⟨jm, hjm⟩ : ∃ jm, jm = (rrunG Fx.t (nearB m1) E en).jmp := ⟨_, rfl⟩
  have HTHREE := hid (show ∀ j, out j = 0 ∨ out j = 1 ∨ out j = 2 from fun j => by rw [hout]; exact rrun_three _ _ _ _ _)
  rw [← hout] at hro
  rw [← hjm] at hrj
  obtain ⟨B, hBB⟩ : ∃ B, B = W2.heap.size := ⟨_, rfl⟩
  have HRO := hid hro
  have HRJ := hid hrj
  have HB2 := hid (HBD.out.trans (hb2.mono HBD.out.size))
  have HE2 := hid (OwnR.grow HO2.out hb2)
  have hgo : go < B := by rw [hBB]; exact hro.lt
  have hgj : gj < B := by rw [hBB]; exact hrj.lt
  have HOUT := hid hout
  have HJM := hid hjm
  clear hro hrj hb2 hout hjm HO2 HMD
  go_wp2_with fail
  go_loopw [11, 12, 31] (fun kv zv iv W => ∃ i : Nat, i ≤ en ∧ iv = .int .i64 (i : Int) ∧ OwnF W B kv (keptR E out i) ∧ OwnI2 W B zv (issR Fx.t E out jm i) ∧ Below B W2 W) (fun _ _ iv _ => en - (intOf iv).toNat)
  case atStart => exact ⟨0, by omega, rfl, OwnR.nil _ _ _ _, OwnR.nil _ _ _ _, Below.refl _ _⟩
  case round =>
    obtain ⟨i, hi, rfl, hkv, hzv, hB⟩ := hrel
    have HKV := hid hkv
    have HZV0 := hid hzv
    have HB := hid hB
    have HBW := hid (show Below W2.heap.size W2 wr by rw [← hBB]; exact hB)
    obtain ⟨ka, kc, hke⟩ := OwnR.slice hkv
    obtain ⟨za, zc, hze⟩ := OwnR.slice hzv
    rw [List.length_map] at hke hze
    obtain ⟨kn, hkn⟩ : ∃ kn, kn = (keptR E out i).length := ⟨_, rfl⟩
    obtain ⟨Z, hZ⟩ : ∃ Z, Z = issR Fx.t E out jm i := ⟨_, rfl⟩
    rw [← hZ] at HZV0 hze
    obtain ⟨zn, hzn⟩ : ∃ zn, zn = Z.length := ⟨_, rfl⟩
    rw [← hkn] at hke
    rw [← hzn] at hze
    subst hke
    subst hze
    have hkl : kn ≤ i := by rw [hkn]; exact keptR_len i
    have hzl : zn ≤ i := by rw [hzn, hZ]; exact issR_len i
    have HKN0 := hid hkn
    have HZN := hid hzn
    have HZE := hid hZ
    have hBs : B ≤ wr.heap.size := by rw [hBB]; exact HBW.out.size
    clear hkv hzv hB hkn hzn hZ
    by_cases hlt : i < en
    · have e3 : decide ((i : Int) < (en : Int)) = true := decide_eq_true (by omega)
      obtain ⟨x, hx⟩ : ∃ x, E[i]? = some x := ⟨_, List.getElem?_eq_getElem (by rw [← HEN.out]; exact hlt)⟩
      obtain ⟨b, hea, hrow, hbl⟩ := own_at HE2.out hx
      subst hea
      have HX := hid hx
      have hc := row_of (hrow.still HBW.out hbl) hx (i * 10) rfl
      clear hx hrow
      go_upto_region 11 with (first | (refine fx_load rfl 55 (.tmp 34) rfl b (i * 10) rfl x hc Try.underlying55 rfl size55f ?_) | (refine wpList_store_new rfl 55 (.tmp 14) (.tmp 35) rfl rfl rfl rfl size55f (row_arr x) rfl rfl ?_))
      refine gen_world (fun W0 hW0 => ?_)
      have KB := hid (show W0.heap[wr.heap.size]? = some (.cells x.row.toArray 55) by rw [hW0]; exact heap_alloc_at _ _ _ rfl)
      have HB0Q := hid (show Below wr.heap.size wr W0 by rw [hW0]; exact (Below.refl _ _).alloc (Nat.le_refl _) _)
      clear hW0 hc
      have HB0 := hid (show Below B W2 W0 from HB.out.trans (HB0Q.out.mono hBs))
      have HK0 := hid (show OwnF W0 B (.slice ka kn kc) (keptR E out i) from OwnR.grow HKV.out HB0Q.out)
      have HI0 := hid (show OwnI2 W0 B (.slice za zn zc) Z from OwnR.grow HZV0.out HB0Q.out)
      have HRO0 := hid (HRO.out.grow (hBB ▸ HB0.out))
      have HRJ0 := hid (HRJ.out.grow (hBB ▸ HB0.out))
      have z0 : W0.cell? ⟨go, i, none⟩ = some (intF out i) := HRO0.out.cell hlt
      unfold intF at z0
      have hw0 : wr.heap.size < W0.heap.size := (Array.getElem?_eq_some_iff.1 KB.out).1
      have HKVW := HKV
      clear HB0Q HB HBW HKV HZV0
      have hth := HTHREE.out i
      rcases hth with ho | ho | ho
      · rw [ho] at z0
        have HOI := hid ho
        clear ho
        have HKN := hid (show keptR E out (i + 1) = keptR E out i ++ [x] by rw [keptR, HOI.out]; rw [if_pos rfl, HX.out]; rfl)
        obtain ⟨k0, k1, k2, k3, k4, k5, k6, k7, k8, k9⟩ := box10 KB.out
        have HW0S := hid (show B ≤ W0.heap.size by rw [hBB]; exact HB0.out.size)
        have HL1 := hid (show ((keptR E out i).map Fx.row).length + [x.row].length ≤ maxLen by rw [List.length_map, ← HKN0.out]; show kn + 1 ≤ _; unfold maxLen; omega)
        have HL2 := hid (show (((keptR E out i).map Fx.row).length + [x.row].length) * 80 ≤ 140737488355328 by rw [List.length_map, ← HKN0.out]; show (kn + 1) * 80 ≤ _; omega)
        have HL3 := hid (show B ≤ (W0.alloc (.cells #[.int .i64 x.t, .int .i64 x.x, .int .i64 x.y, .int .i64 x.z, .int .i64 x.e, .int .i64 x.a, .int .i64 x.b, .int .i64 x.c, .int .i64 x.d, .int .i64 x.g] 55)).heap.size by simp; omega)
        have hbx : Below W0.heap.size W0 (W0.alloc (.cells #[.int .i64 x.t, .int .i64 x.x, .int .i64 x.y, .int .i64 x.z, .int .i64 x.e, .int .i64 x.a, .int .i64 x.b, .int .i64 x.c, .int .i64 x.d, .int .i64 x.g] 55)) := (Below.refl _ _).alloc (Nat.le_refl _) _
        have HBX := hid hbx
        clear hbx
        go_upto_region 14 with (first | (at_builtin; go_loud (refine wpList_append_rowsR rfl (.tmp 42) (.tmp 44) 106 rfl B 55 i0 _ 10 80 Try.underlying106 HI.out HZ0.out HZ1.out HZ2.out rfl (by decide) (.slice ka kn kc) ((keptR E out i).map Fx.row) [x.row] rfl (OwnR.grow HK0.out HBX.out) W0.heap.size 0 1 1 rfl rfl (rows_one (f := x) (heap_alloc_at _ _ _ rfl)) (rows_wide [x]) HL1.out HL2.out HL3.out ?_; intro v6 w6 ho6 hg6 z6; clear z6; have HO6 := hid (show OwnF w6 B v6 (keptR E out i ++ [x]) by unfold OwnF; rw [List.map_append]; exact ho6); have HB6 := hid (show Below B W2 w6 from (HB0.out.alloc HW0S.out _).grown hg6 HL3.out (fun k9 hk9 => OwnR.ownBlock HK0.out k9 hk9)); have HQ6 := hid (fun (k : Nat) (o : Obj) (h : W0.heap[k]? = some o) (hne : some k ≠ (Value.slice ka kn kc).ownBlock) => (hg6.block k (Array.getElem?_eq_some_iff.1 (heap_still HBX.out h)).1 hne).trans (heap_still HBX.out h)); clear ho6 hg6)))
        clear k0 k1 k2 k3 k4 k5 k6 k7 k8 k9 z0
        have HZV := hid (show OwnI2 w6 B (.slice za zn zc) Z from OwnR.same HI0.out (fun k hk => by obtain ⟨C, hC⟩ := own_type HI0.out hk; exact (HQ6.out k _ hC (fun e => own_not HK0.out hC (by decide) e.symm)).trans hC.symm))
        have HBV := HB6
        have HRJ6 := hid (HRJ.out.grow (hBB ▸ HB6.out))
        have KV := hid (HQ6.out wr.heap.size _ KB.out (fun e => by obtain ⟨C, hC⟩ := own_type HKVW.out e.symm; have h9 := (Array.getElem?_eq_some_iff.1 hC).1; omega))
        have HKVV := HO6
        have z1 : w6.cell? ⟨gj, i, none⟩ = some (boolF jm i) := HRJ6.out.cell hlt
        unfold boolF at z1
        cases hj : jm i with
        | true =>
          rw [hj] at z1
          have HJI := hid hj
          clear hj
          have HIN := hid (show issR Fx.t E out jm (i + 1) = issR Fx.t E out jm i ++ [(3, x.t)] by rw [issR, HX.out, HOI.out, HJI.out]; rfl)
          rw [← HZE.out] at HIN
          have HVS := hid (show B ≤ w6.heap.size by rw [hBB]; exact HBV.out.size)
          have HL1 := hid (show (Z.map irow).length + [irow (3, x.t)].length ≤ maxLen by rw [List.length_map, ← HZN.out, List.length_singleton]; unfold maxLen; omega)
          have HL2 := hid (show ((Z.map irow).length + [irow (3, x.t)].length) * 16 ≤ 140737488355328 by rw [List.length_map, ← HZN.out, List.length_singleton]; omega)
          have HL3 := hid (show B ≤ (w6.alloc (.cells #[.int .i64 3, .int .i64 x.t] 124)).heap.size by simp; have h1 := HBV.out.size; have h2 := hBB; omega)
          have cx0 : w6.cell? ⟨wr.heap.size, 0, none⟩ = some (.int .i64 x.t) := (cell_row (j := 0) KV.out).trans rfl
          go_wp2_with (first | (at_builtin; go_loud (refine wpList_append_rowsR rfl (.tmp 50) (.tmp 54) 113 rfl B 124 j0 _ 2 16 Try.underlying113 HJ.out HJ0.out HJ1.out HJ2.out rfl (by decide) (.slice za zn zc) (Z.map irow) [irow (3, x.t)] rfl (OwnR.grow HZV.out ((Below.refl _ _).alloc (Nat.le_refl _) _)) w6.heap.size 0 1 1 rfl rfl (fun i r hi j hj => by match i, hi with | 0, hi => (injection hi with hi; subst hi; rw [cell_row (heap_alloc_at _ _ _ rfl)]; match j, hj with | 0, _ | 1, _ => rfl)) (irows_wide [(3, x.t)]) HL1.out HL2.out HL3.out ?_; intro v7 w7 ho7 hg7 z7; clear z7; have HO7 := hid (show OwnI2 w7 B v7 (Z ++ [(3, x.t)]) by unfold OwnI2; rw [List.map_append]; exact ho7); have HB7 := hid (show Below B W2 w7 from (HBV.out.alloc HVS.out _).grown hg7 HL3.out (fun k9 hk9 => OwnR.ownBlock HZV.out k9 hk9)); have HK7 := hid (show OwnF w7 B v6 (keptR E out i ++ [x]) from OwnR.same HKVV.out (fun k hk => by obtain ⟨C, hC⟩ := own_type HKVV.out hk; have hC2 := heap_still ((Below.refl w6.heap.size w6).alloc (Nat.le_refl _) (.cells #[.int .i64 3, .int .i64 x.t] 124)) hC; exact (hg7.block k (Array.getElem?_eq_some_iff.1 hC2).1 (fun e => own_not HZV.out hC (by decide) e.symm)).trans (hC2.trans hC.symm))); clear ho7 hg7)))
          refine ⟨⟨i + 1, by omega, by go_num, ?_, ?_, HB7.out⟩, by simp [intOf]; omega⟩
          · rw [HKN.out]; exact HK7.out
          · rw [HIN.out]; exact HO7.out
        | false =>
          rw [hj] at z1
          have HJI := hid hj
          clear hj
          have HIN := hid (show issR Fx.t E out jm (i + 1) = issR Fx.t E out jm i ++ [] by rw [issR, HX.out, HOI.out, HJI.out]; rfl)
          rw [List.append_nil, ← HZE.out] at HIN
          go_wp2_with fail
          refine ⟨⟨i + 1, by omega, by go_num, ?_, ?_, HB6.out⟩, by simp [intOf]; omega⟩
          · rw [HKN.out]; exact HO6.out
          · rw [HIN.out]; exact HZV.out
      · rw [ho] at z0
        have HOI := hid ho
        clear ho
        have HKN := hid (show keptR E out (i + 1) = keptR E out i by rw [keptR, HOI.out]; rw [if_neg (by decide), List.append_nil])
        have HIN := hid (show issR Fx.t E out jm (i + 1) = issR Fx.t E out jm i ++ [(2, x.t)] by rw [issR, HX.out, HOI.out]; rfl)
        rw [← HZE.out] at HIN
        have HZV := HI0
        have HBV := HB0
        have KV := KB
        have HKVV := HK0
        have HVS := hid (show B ≤ W0.heap.size by rw [hBB]; exact HBV.out.size)
        have HL1 := hid (show (Z.map irow).length + [irow (2, x.t)].length ≤ maxLen by rw [List.length_map, ← HZN.out, List.length_singleton]; unfold maxLen; omega)
        have HL2 := hid (show ((Z.map irow).length + [irow (2, x.t)].length) * 16 ≤ 140737488355328 by rw [List.length_map, ← HZN.out, List.length_singleton]; omega)
        have HL3 := hid (show B ≤ (W0.alloc (.cells #[.int .i64 2, .int .i64 x.t] 124)).heap.size by simp; have h1 := HBV.out.size; have h2 := hBB; omega)
        have cx0 : W0.cell? ⟨wr.heap.size, 0, none⟩ = some (.int .i64 x.t) := (cell_row (j := 0) KV.out).trans rfl
        go_wp2_with (first | (at_builtin; go_loud (refine wpList_append_rowsR rfl (.tmp 58) (.tmp 62) 113 rfl B 124 j0 _ 2 16 Try.underlying113 HJ.out HJ0.out HJ1.out HJ2.out rfl (by decide) (.slice za zn zc) (Z.map irow) [irow (2, x.t)] rfl (OwnR.grow HZV.out ((Below.refl _ _).alloc (Nat.le_refl _) _)) W0.heap.size 0 1 1 rfl rfl (fun i r hi j hj => by match i, hi with | 0, hi => (injection hi with hi; subst hi; rw [cell_row (heap_alloc_at _ _ _ rfl)]; match j, hj with | 0, _ | 1, _ => rfl)) (irows_wide [(2, x.t)]) HL1.out HL2.out HL3.out ?_; intro v7 w7 ho7 hg7 z7; clear z7; have HO7 := hid (show OwnI2 w7 B v7 (Z ++ [(2, x.t)]) by unfold OwnI2; rw [List.map_append]; exact ho7); have HB7 := hid (show Below B W2 w7 from (HBV.out.alloc HVS.out _).grown hg7 HL3.out (fun k9 hk9 => OwnR.ownBlock HZV.out k9 hk9)); have HK7 := hid (show OwnF w7 B (.slice ka kn kc) (keptR E out i) from OwnR.same HKVV.out (fun k hk => by obtain ⟨C, hC⟩ := own_type HKVV.out hk; have hC2 := heap_still ((Below.refl W0.heap.size W0).alloc (Nat.le_refl _) (.cells #[.int .i64 2, .int .i64 x.t] 124)) hC; exact (hg7.block k (Array.getElem?_eq_some_iff.1 hC2).1 (fun e => own_not HZV.out hC (by decide) e.symm)).trans (hC2.trans hC.symm))); clear ho7 hg7)))
        refine ⟨⟨i + 1, by omega, by go_num, ?_, ?_, HB7.out⟩, by simp [intOf]; omega⟩
        · rw [HKN.out]; exact HK7.out
        · rw [HIN.out]; exact HO7.out
      · rw [ho] at z0
        have HOI := hid ho
        clear ho
        have HKN := hid (show keptR E out (i + 1) = keptR E out i by rw [keptR, HOI.out]; rw [if_neg (by decide), List.append_nil])
        have HIN := hid (show issR Fx.t E out jm (i + 1) = issR Fx.t E out jm i ++ [(1, x.t)] by rw [issR, HX.out, HOI.out]; rfl)
        rw [← HZE.out] at HIN
        have HZV := HI0
        have HBV := HB0
        have KV := KB
        have HKVV := HK0
        have HVS := hid (show B ≤ W0.heap.size by rw [hBB]; exact HBV.out.size)
        have HL1 := hid (show (Z.map irow).length + [irow (1, x.t)].length ≤ maxLen by rw [List.length_map, ← HZN.out, List.length_singleton]; unfold maxLen; omega)
        have HL2 := hid (show ((Z.map irow).length + [irow (1, x.t)].length) * 16 ≤ 140737488355328 by rw [List.length_map, ← HZN.out, List.length_singleton]; omega)
        have HL3 := hid (show B ≤ (W0.alloc (.cells #[.int .i64 1, .int .i64 x.t] 124)).heap.size by simp; have h1 := HBV.out.size; have h2 := hBB; omega)
        have cx0 : W0.cell? ⟨wr.heap.size, 0, none⟩ = some (.int .i64 x.t) := (cell_row (j := 0) KV.out).trans rfl
        go_wp2_with (first | (at_builtin; go_loud (refine wpList_append_rowsR rfl (.tmp 66) (.tmp 70) 113 rfl B 124 j0 _ 2 16 Try.underlying113 HJ.out HJ0.out HJ1.out HJ2.out rfl (by decide) (.slice za zn zc) (Z.map irow) [irow (1, x.t)] rfl (OwnR.grow HZV.out ((Below.refl _ _).alloc (Nat.le_refl _) _)) W0.heap.size 0 1 1 rfl rfl (fun i r hi j hj => by match i, hi with | 0, hi => (injection hi with hi; subst hi; rw [cell_row (heap_alloc_at _ _ _ rfl)]; match j, hj with | 0, _ | 1, _ => rfl)) (irows_wide [(1, x.t)]) HL1.out HL2.out HL3.out ?_; intro v7 w7 ho7 hg7 z7; clear z7; have HO7 := hid (show OwnI2 w7 B v7 (Z ++ [(1, x.t)]) by unfold OwnI2; rw [List.map_append]; exact ho7); have HB7 := hid (show Below B W2 w7 from (HBV.out.alloc HVS.out _).grown hg7 HL3.out (fun k9 hk9 => OwnR.ownBlock HZV.out k9 hk9)); have HK7 := hid (show OwnF w7 B (.slice ka kn kc) (keptR E out i) from OwnR.same HKVV.out (fun k hk => by obtain ⟨C, hC⟩ := own_type HKVV.out hk; have hC2 := heap_still ((Below.refl W0.heap.size W0).alloc (Nat.le_refl _) (.cells #[.int .i64 1, .int .i64 x.t] 124)) hC; exact (hg7.block k (Array.getElem?_eq_some_iff.1 hC2).1 (fun e => own_not HZV.out hC (by decide) e.symm)).trans (hC2.trans hC.symm))); clear ho7 hg7)))
        refine ⟨⟨i + 1, by omega, by go_num, ?_, ?_, HB7.out⟩, by simp [intOf]; omega⟩
        · rw [HKN.out]; exact HK7.out
        · rw [HIN.out]; exact HO7.out
    · have e3 : decide ((i : Int) < (en : Int)) = false := decide_eq_false (by omega)
      have hin : i = en := by omega
      have HKF := hid (show OwnF wr B (.slice ka kn kc) (keptR E out en) from hin ▸ HKV.out)
      have HZF := hid (show OwnI2 wr B (.slice za zn zc) (issR Fx.t E out jm en) from by rw [← hin, ← HZE.out]; exact HZV0.out)
      have HBN := hid (show Below w.heap.size w wr from HB2.out.trans (HBW.out.mono HB2.out.size))
      have hwb : w.heap.size ≤ B := by rw [hBB]; exact HB2.out.size
      clear hin HKV HZV0 HB HBW
      go_wp2_with fail
      go_ret3
      exact ⟨⟨_, _, E, rfl, HND.out, HMEM.out, HTU.out, by rw [← HEN.out, ← HOUT.out]; exact OwnR.mono HKF.out hwb, by rw [← HEN.out, ← HOUT.out, ← HJM.out]; exact HZF.out.iss⟩, HBN.out⟩
end Go.Proofs.Yteoikaedpgianaa
