/- Orders: ring 60, ValidOrder 21 and 22, Contains 100 and Index 128. -/
import Derived.Test.YtpablkmdpoombaaRWithin
import Derived.Test.YtpablkmdpoombaaByt
namespace Go.Proofs.Ytpablkmdpoombaa
open Go.RowKit

/-- an order, as it lies in memory -/
structure Od where
  lv : Int
  rv : Value
  R : List Xy
  cv : Value
  C : List Int
  ev : Int
def Od.row (o : Od) : List Value := [.int .i64 o.lv, o.rv, o.cv, .int .i64 o.ev]
def clB (z : Int) : Bool := inB 0 255 z
def odB (o : Od) : Bool := inB 0 12 o.lv && inB 1 1000 o.ev && decide (o.C.length ≤ 16) && (o.R.isEmpty || ringB o.R) && o.C.all clB
structure OdV (W : World) (o : Od) : Prop where
  r : XysV W o.rv o.R
  rl : o.R.length ≤ maxLen
  c : IntsV W o.cv o.C
  cl : o.C.length ≤ maxLen
theorem OdV.still {W W' : World} {o : Od} (h : OdV W o) (hb : Below W.heap.size W W') : OdV W' o := ⟨h.r.still hb, h.rl, h.c.still hb, h.cl⟩
theorem rfrom_any (a b c : Int) (w : World) :
    Calls Try.prog 54 #[.int .i64 a, .int .i64 b, .int .i64 c] w fun e w' => e = .returned (.bool (inB a c b)) ∧ w = w' := by
  by_cases h1 : a ≤ b <;> by_cases h2 : b ≤ c
  all_goals
    go_enter Try.func54, Try.ntmps54
    go_wp2
    go_ret
    simp [inB, *]
theorem plX_zero : plX ⟨0, 0⟩ = true := by decide
set_option maxRecDepth 100000 in
theorem xring_any (v : Value) (R : List Xy) (w : World) (hR : XysV w v R) (hm : R.length ≤ maxLen) :
    Calls Try.prog 60 #[v] w fun r w' => r = .returned (.bool (ringB R)) ∧ Below w.heap.size w w' := by
  have HR := hid hR
  have HM := hid hm
  have HC := hid (fun W h => xWithin_any v R 0 0 W h hm)
  obtain ⟨a, cap, rfl, _⟩ := hR
  generalize R.length = n at *
  cases hr : ringB R
  · have HE := hid (show withinE R ⟨0, 0⟩ = 72 by unfold withinE; rw [hr]; rfl)
    clear hr hm
    go_enter Try.func60, Try.ntmps60
    go_wp2_with fail
    refine (HC.out _ HR.out).mono ?_
    rintro r w1 ⟨rfl, hb⟩
    rw [HE.out]
    go_wp2_with fail
    go_ret
    exact ⟨rfl, hb⟩
  · have HE := hid (show withinE R ⟨0, 0⟩ = 0 by unfold withinE; rw [hr, plX_zero]; rfl)
    clear hr hm
    go_enter Try.func60, Try.ntmps60
    go_wp2_with fail
    refine (HC.out _ HR.out).mono ?_
    rintro r w1 ⟨rfl, hb⟩
    rw [HE.out]
    go_wp2_with fail
    go_ret
    exact ⟨rfl, hb⟩
/-- where a number stands in a list, or -1 -/
def idxI (l : List Int) (x : Int) : Int := match l.findIdx? (fun z => z == x) with | some i => (i : Int) | none => -1
theorem ints_cell {W W' : World} {l : List Int} {B i : Nat} {z : Int} {b off : Nat} (h : ∀ (i : Nat) (z : Int), l[i]? = some z → W.cell? ⟨b, off + i, none⟩ = some (.int .i64 z)) (hz : l[i]? = some z) (hb : Below B W W') (hB : b < B) : W'.cell? ⟨b, off + i, none⟩ = some (.int .i64 z) := by
  rw [hb.cell hB]; exact h i z hz
theorem idxI_any {l : List Int} {x : Int} {i : Nat} (hi : l[i]? = some x) : l.any (fun z => z == x) = true := List.any_eq_true.2 ⟨x, List.mem_of_getElem? hi, by simp⟩
set_option maxRecDepth 100000 in
set_option maxHeartbeats 1600000 in
theorem index_ints (v : Value) (l : List Int) (x : Int) (w : World) (hv : IntsV w v l) (hm : l.length ≤ maxLen) :
    Calls Try.prog 128 #[v, .int .i64 x] w fun r w' => (∃ k : Int, r = .returned (.int .i64 k) ∧ decide (0 ≤ k) = l.any (fun z => z == x)) ∧ Below w.heap.size w w' := by
  obtain ⟨a, cap, rfl, hrow⟩ := hv
  obtain ⟨n, hn⟩ : ∃ n, n = l.length := ⟨_, rfl⟩
  rw [← hn] at hm ⊢
  have hnm' : n ≤ 9223372036854775807 := by unfold maxLen at hm; omega
  clear hm
  have HN := hid hn
  have HROW := hid hrow
  clear hn hrow
  go_enter Try.func128, Try.ntmps128
  go_wp2_with fail
  go_loopw [8] (fun iv W => ∃ i : Nat, i ≤ n ∧ iv = .int .i64 (i : Int) ∧ (l.take i).any (fun z => z == x) = false ∧ Below w.heap.size w W) (fun iv _ => n - (intOf iv).toNat)
  case atStart => exact ⟨0, by omega, rfl, rfl, Below.refl _ _⟩
  case round =>
    obtain ⟨i, hi, rfl, hall, hB⟩ := hrel
    have HALL := hid hall
    have HBwr := hid hB
    have hzwr := hB.size
    clear hall hB
    by_cases hlt : i < n
    · have d2 : decide ((i : Int) < (n : Int)) = true := decide_eq_true (by omega)
      obtain ⟨z, hz⟩ : ∃ z, l[i]? = some z := ⟨_, List.getElem?_eq_getElem (by rw [← HN.out]; exact hlt)⟩
      obtain ⟨b, off, rfl, hbw, hrows⟩ := HROW.out.resolve_left (fun h => by rw [h] at hz; simp at hz)
      have c0 : wr.cell? ⟨b, off + i, none⟩ = some (.int .i64 z) := ints_cell hrows hz HBwr.out hbw
      by_cases hxz : x = z
      · have d3 : decide (x = z) = true := decide_eq_true hxz
        have d4 : (x == z) = true := by simpa using hxz
        have HV := hid (show l.any (fun z => z == x) = true from idxI_any (by rw [hz, hxz]))
        clear hz hrows hxz
        go_wp2_with fail
        go_ret
        exact ⟨⟨_, rfl, by rw [HV.out]; exact decide_eq_true (by omega)⟩, HBwr.out⟩
      · have d3 : decide (x = z) = false := decide_eq_false hxz
        have d4 : (x == z) = false := by simpa using hxz
        have HX := hid (show (l.take (i + 1)).any (fun z => z == x) = false by
          rw [take_next hz, List.any_append, HALL.out]; simpa using fun h : z = x => hxz h.symm)
        clear hz hrows
        go_wp2_with fail
        exact ⟨⟨i + 1, by omega, by go_num, HX.out, HBwr.out⟩, by simp [intOf]; omega⟩
    · obtain rfl : i = n := by omega
      have d2 : decide ((i : Int) < (i : Int)) = false := by simp
      have HV := hid (show l.any (fun z => z == x) = false by have h := HALL.out; rw [HN.out, List.take_length] at h; exact h)
      go_wp2_with fail
      go_ret
      exact ⟨⟨-1, rfl, by rw [HV.out]; rfl⟩, HBwr.out⟩
set_option maxRecDepth 100000 in
theorem contains_any (v : Value) (l : List Int) (x : Int) (w : World) (hv : IntsV w v l) (hm : l.length ≤ maxLen) :
    Calls Try.prog 100 #[v, .int .i64 x] w fun r w' => r = .returned (.bool (l.any (fun z => z == x))) ∧ Below w.heap.size w w' := by
  have HC := hid (index_ints v l x w hv hm)
  obtain ⟨a, cap, rfl, _⟩ := hv
  generalize l.length = n at *
  clear hm
  go_enter Try.func100, Try.ntmps100
  go_wp2_with fail
  refine HC.out.mono ?_
  rintro r w1 ⟨⟨k, rfl, hk⟩, hb⟩
  have HK := hid hk
  obtain ⟨B, hB⟩ : ∃ B, B = decide (0 ≤ k) := ⟨_, rfl⟩
  have d1 := hB.symm
  have HKE := hid (show l.any (fun z => z == x) = B by rw [← hk, hB])
  clear hB hk
  cases B
  all_goals
    go_wp2_with fail
    go_ret
    exact ⟨by rw [HKE.out]; rfl, hb⟩
theorem odB_false {o : Od} (h : inB 0 12 o.lv = false ∨ inB 1 1000 o.ev = false ∨ 16 < o.C.length ∨ (0 < o.R.length ∧ ringB o.R = false) ∨ o.C.all clB = false) : odB o = false := by
  unfold odB
  rcases h with h | h | h | ⟨h0, h⟩ | h
  · rw [h]; rfl
  · rw [h]; simp
  · rw [decide_eq_false (by omega)]; simp
  · rw [h, show o.R.isEmpty = false by cases hR : o.R with | nil => rw [hR] at h0; simp at h0 | cons a l => rfl]; simp
  · rw [h]; simp
theorem odB_true {o : Od} (h1 : inB 0 12 o.lv = true) (h2 : inB 1 1000 o.ev = true) (h3 : o.C.length ≤ 16) (h4 : o.R.length = 0 ∨ ringB o.R = true) (h5 : o.C.all clB = true) : odB o = true := by
  unfold odB
  rw [h1, h2, h5, decide_eq_true h3]
  rcases h4 with h4 | h4
  · rw [List.length_eq_zero_iff.1 h4]; rfl
  · rw [h4]; simp
theorem cl_stop {C : List Int} {i : Nat} {z : Int} (hz : C[i]? = some z) (h : inB 0 255 z = false) : C.all clB = false := by
  rw [List.all_eq_false]; exact ⟨z, List.mem_of_getElem? hz, by unfold clB; rw [h]; decide⟩
theorem cl_next {C : List Int} {i : Nat} {z : Int} (hz : C[i]? = some z) (h : inB 0 255 z = true) (ha : (C.take i).all clB = true) : (C.take (i + 1)).all clB = true := by
  rw [take_next hz, List.all_append, ha]; simp [clB, h]
set_option maxRecDepth 100000 in
set_option maxHeartbeats 3200000 in
theorem xorder_any (o : Od) (w : World) (h : OdV w o) : Calls Try.prog 21 #[.agg o.row.toArray] w fun r w' => r = .returned (.bool (odB o)) ∧ Below w.heap.size w w' := by
  have HO := hid h
  obtain ⟨lv, rv, R, cv, C, ev⟩ := o
  obtain ⟨⟨ra, rc, hrv, hrr⟩, hrl, ⟨ca, cc, hcv, hcr⟩, hcl⟩ := h
  obtain rfl : rv = .slice ra R.length rc := hrv
  obtain rfl : cv = .slice ca C.length cc := hcv
  have HCR := hid hcr
  clear hrr hcr
  simp only [Od.row]
  obtain ⟨m, hm⟩ : ∃ m, m = R.length := ⟨_, rfl⟩
  obtain ⟨n, hn⟩ : ∃ n, n = C.length := ⟨_, rfl⟩
  rw [← hm, ← hn] at HO ⊢
  have hrl' : m ≤ 9223372036854775807 := by have h1 : R.length ≤ maxLen := hrl; unfold maxLen at h1; omega
  have hcl' : n ≤ 9223372036854775807 := by have h1 : C.length ≤ maxLen := hcl; unfold maxLen at h1; omega
  have HM := hid hm
  have HN := hid hn
  clear hm hn hrl hcl
  have HRI := hid (fun W (hb : Below w.heap.size w W) => (HO.out.still hb).r)
  have HRL := hid (show R.length ≤ maxLen from HO.out.rl)
  obtain ⟨ra0, hra0⟩ : ∃ x, x = ra := ⟨_, rfl⟩
  obtain ⟨ca0, hca0⟩ : ∃ x, x = ca := ⟨_, rfl⟩
  have HOD := hid (show odB ⟨lv, .slice ra m rc, R, .slice ca n cc, C, ev⟩ = odB ⟨lv, .slice ra0 m rc, R, .slice ca0 n cc, C, ev⟩ from rfl)
  rw [HOD.out]
  clear HOD hra0 hca0
  cases hA : inB 0 12 lv
  · have HA := hid hA
    have HV := hid (show odB ⟨lv, .slice ra0 m rc, R, .slice ca0 n cc, C, ev⟩ = false from odB_false (Or.inl hA))
    clear hA
    go_enter Try.func21, Try.ntmps21
    go_wp2_with fail
    refine (in_any _ _ _ _).mono ?_
    rintro r w6 ⟨rfl, rfl⟩
    rw [HA.out]
    go_wp2_with fail
    go_ret
    exact ⟨by rw [HV.out]; rfl, (Below.refl _ _).alloc (Nat.le_refl _) _⟩
  have HA := hid hA
  clear hA
  cases hE : inB 1 1000 ev
  · have HE := hid hE
    have HV := hid (show odB ⟨lv, .slice ra0 m rc, R, .slice ca0 n cc, C, ev⟩ = false from odB_false (Or.inr (Or.inl hE)))
    clear hE
    go_enter Try.func21, Try.ntmps21
    go_wp2_with fail
    refine (in_any _ _ _ _).mono ?_
    rintro r w6 ⟨rfl, rfl⟩
    rw [HA.out]
    go_wp2_with fail
    refine (in_any _ _ _ _).mono ?_
    rintro r w6 ⟨rfl, rfl⟩
    rw [HE.out]
    go_wp2_with fail
    go_ret
    exact ⟨by rw [HV.out]; rfl, (Below.refl _ _).alloc (Nat.le_refl _) _⟩
  have HE := hid hE
  clear hE
  by_cases h16 : 16 < n
  · have d0 : decide ((16 : Int) < (n : Int)) = true := decide_eq_true (by omega)
    have HV := hid (show odB ⟨lv, .slice ra0 m rc, R, .slice ca0 n cc, C, ev⟩ = false from odB_false (Or.inr (Or.inr (Or.inl (by show 16 < C.length; rw [← HN.out]; exact h16)))))
    go_enter Try.func21, Try.ntmps21
    go_wp2_with fail
    refine (in_any _ _ _ _).mono ?_
    rintro r w6 ⟨rfl, rfl⟩
    rw [HA.out]
    go_wp2_with fail
    refine (in_any _ _ _ _).mono ?_
    rintro r w6 ⟨rfl, rfl⟩
    rw [HE.out]
    go_wp2_with fail
    go_ret
    exact ⟨by rw [HV.out]; rfl, (Below.refl _ _).alloc (Nat.le_refl _) _⟩
  have d0 : decide ((16 : Int) < (n : Int)) = false := decide_eq_false (by omega)
  replace h16 : n ≤ 16 := by omega
  by_cases h0 : 0 < m
  · have d1 : decide ((0 : Int) < (m : Int)) = true := decide_eq_true (by omega)
    cases hr : ringB R
    · have HR := hid hr
      have HV := hid (show odB ⟨lv, .slice ra0 m rc, R, .slice ca0 n cc, C, ev⟩ = false from odB_false (Or.inr (Or.inr (Or.inr (Or.inl ⟨by show 0 < R.length; rw [← HM.out]; exact h0, hr⟩)))))
      clear hr
      go_enter Try.func21, Try.ntmps21
      go_wp2_with fail
      refine (in_any _ _ _ _).mono ?_
      rintro r w6 ⟨rfl, rfl⟩
      rw [HA.out]
      go_wp2_with fail
      refine (in_any _ _ _ _).mono ?_
      rintro r w6 ⟨rfl, rfl⟩
      rw [HE.out]
      go_wp2_with fail
      refine (xring_any _ R _ (HRI.out _ ((Below.refl _ _).alloc (Nat.le_refl _) _)) HRL.out).mono ?_
      rintro r w6 ⟨rfl, hb⟩
      rw [HR.out]
      go_wp2_with fail
      go_ret
      exact ⟨by rw [HV.out]; rfl, ((Below.refl _ _).alloc (Nat.le_refl _) _).trans (hb.mono (by simp))⟩
    · have HR := hid hr
      clear hr
      go_enter Try.func21, Try.ntmps21
      go_wp2_with fail
      refine (in_any _ _ _ _).mono ?_
      rintro r w6 ⟨rfl, rfl⟩
      rw [HA.out]
      go_wp2_with fail
      refine (in_any _ _ _ _).mono ?_
      rintro r w6 ⟨rfl, rfl⟩
      rw [HE.out]
      go_wp2_with fail
      refine (xring_any _ R _ (HRI.out _ ((Below.refl _ _).alloc (Nat.le_refl _) _)) HRL.out).mono ?_
      rintro r w6 ⟨rfl, hb⟩
      rw [HR.out]
      have K1 := hid (show w6.heap[w.heap.size]? = some (.cells #[.int .i64 lv, .slice ra m rc, .slice ca n cc, .int .i64 ev] 64) from heap_still hb (heap_alloc_at _ _ _ rfl))
      have HB1 := hid (((Below.refl w.heap.size w).alloc (Nat.le_refl _) (.cells #[.int .i64 lv, .slice ra m rc, .slice ca n cc, .int .i64 ev] 64)).trans (hb.mono (by simp)))
      clear hb
      have q0 : w6.cell? ⟨w.heap.size, 0, none⟩ = some (.int .i64 lv) := (cell_row (j := 0) K1.out).trans rfl
      have q1 : w6.cell? ⟨w.heap.size, 1, none⟩ = some (.slice ra m rc) := (cell_row (j := 1) K1.out).trans rfl
      have q2 : w6.cell? ⟨w.heap.size, 2, none⟩ = some (.slice ca n cc) := (cell_row (j := 2) K1.out).trans rfl
      have q3 : w6.cell? ⟨w.heap.size, 3, none⟩ = some (.int .i64 ev) := (cell_row (j := 3) K1.out).trans rfl
      go_wp2_with fail
      clear q0 q1 q2 q3
      go_loopw [36] (fun iv W => ∃ i : Nat, i ≤ n ∧ iv = .int .i64 (i : Int) ∧ (C.take i).all clB = true ∧ Below w.heap.size w W ∧ W.heap[w.heap.size]? = some (.cells #[.int .i64 lv, .slice ra m rc, .slice ca n cc, .int .i64 ev] 64)) (fun iv _ => n - (intOf iv).toNat)
      case atStart => exact ⟨0, by omega, rfl, rfl, HB1.out, K1.out⟩
      case round =>
        obtain ⟨i, hi, rfl, hall, hB, hk⟩ := hrel
        have HALL := hid hall
        have HBwr := hid hB
        have HKwr := hid hk
        have hzwr := hB.size
        clear hall hB hk
        by_cases hlt : i < n
        · have d2 : decide ((i : Int) < (n : Int)) = true := decide_eq_true (by omega)
          obtain ⟨z, hz⟩ : ∃ z, C[i]? = some z := ⟨_, List.getElem?_eq_getElem (by rw [← HN.out]; exact hlt)⟩
          obtain ⟨b, off, rfl, hbw, hrows⟩ := HCR.out.resolve_left (fun h => by have h2 : C = [] := h; rw [h2] at hz; simp at hz)
          have c0 : wr.cell? ⟨b, off + i, none⟩ = some (.int .i64 z) := ints_cell hrows hz HBwr.out hbw
          cases h1 : inB 0 255 z
          · have H1 := hid h1
            have HV := hid (show odB ⟨lv, .slice ra0 m rc, R, .slice ca0 n cc, C, ev⟩ = false from odB_false (Or.inr (Or.inr (Or.inr (Or.inr (cl_stop hz h1))))))
            clear h1 hz hrows
            go_wp2_with fail
            refine (in_any _ _ _ _).mono ?_
            rintro r w6 ⟨rfl, rfl⟩
            rw [H1.out]
            go_wp2_with fail
            go_ret
            exact ⟨by rw [HV.out]; rfl, HBwr.out⟩
          · have H1 := hid h1
            have HX := hid (cl_next hz h1 HALL.out)
            clear h1 hz hrows
            go_wp2_with fail
            refine (in_any _ _ _ _).mono ?_
            rintro r w6 ⟨rfl, rfl⟩
            rw [H1.out]
            go_wp2_with fail
            exact ⟨⟨i + 1, by omega, by go_num, HX.out, HBwr.out, HKwr.out⟩, by simp [intOf]; omega⟩
        · obtain rfl : i = n := by omega
          have d2 : decide ((i : Int) < (i : Int)) = false := by simp
          have HCA := hid (show C.all clB = true by have h := HALL.out; rw [HN.out, List.take_length] at h; exact h)
          have HV := hid (show odB ⟨lv, .slice ra0 m rc, R, .slice ca0 i cc, C, ev⟩ = true from odB_true HA.out HE.out (by show C.length ≤ 16; rw [← HN.out]; exact h16) (Or.inr HR.out) HCA.out)
          go_wp2_with fail
          go_ret
          exact ⟨by rw [HV.out]; rfl, HBwr.out⟩
  · have d1 : decide ((0 : Int) < (m : Int)) = false := decide_eq_false (by omega)
    go_enter Try.func21, Try.ntmps21
    go_wp2_with fail
    refine (in_any _ _ _ _).mono ?_
    rintro r w6 ⟨rfl, rfl⟩
    rw [HA.out]
    go_wp2_with fail
    refine (in_any _ _ _ _).mono ?_
    rintro r w6 ⟨rfl, rfl⟩
    rw [HE.out]
    go_wp2_with fail
    go_loopw [36] (fun iv W => ∃ i : Nat, i ≤ n ∧ iv = .int .i64 (i : Int) ∧ (C.take i).all clB = true ∧ Below w.heap.size w W ∧ W.heap[w.heap.size]? = some (.cells #[.int .i64 lv, .slice ra m rc, .slice ca n cc, .int .i64 ev] 64)) (fun iv _ => n - (intOf iv).toNat)
    case atStart => exact ⟨0, by omega, rfl, rfl, ((Below.refl _ _).alloc (Nat.le_refl _) _), heap_alloc_at _ _ _ rfl⟩
    case round =>
      obtain ⟨i, hi, rfl, hall, hB, hk⟩ := hrel
      have HALL := hid hall
      have HBwr := hid hB
      have HKwr := hid hk
      have hzwr := hB.size
      clear hall hB hk
      by_cases hlt : i < n
      · have d2 : decide ((i : Int) < (n : Int)) = true := decide_eq_true (by omega)
        obtain ⟨z, hz⟩ : ∃ z, C[i]? = some z := ⟨_, List.getElem?_eq_getElem (by rw [← HN.out]; exact hlt)⟩
        obtain ⟨b, off, rfl, hbw, hrows⟩ := HCR.out.resolve_left (fun h => by have h2 : C = [] := h; rw [h2] at hz; simp at hz)
        have c0 : wr.cell? ⟨b, off + i, none⟩ = some (.int .i64 z) := ints_cell hrows hz HBwr.out hbw
        cases h1 : inB 0 255 z
        · have H1 := hid h1
          have HV := hid (show odB ⟨lv, .slice ra0 m rc, R, .slice ca0 n cc, C, ev⟩ = false from odB_false (Or.inr (Or.inr (Or.inr (Or.inr (cl_stop hz h1))))))
          clear h1 hz hrows
          go_wp2_with fail
          refine (in_any _ _ _ _).mono ?_
          rintro r w6 ⟨rfl, rfl⟩
          rw [H1.out]
          go_wp2_with fail
          go_ret
          exact ⟨by rw [HV.out]; rfl, HBwr.out⟩
        · have H1 := hid h1
          have HX := hid (cl_next hz h1 HALL.out)
          clear h1 hz hrows
          go_wp2_with fail
          refine (in_any _ _ _ _).mono ?_
          rintro r w6 ⟨rfl, rfl⟩
          rw [H1.out]
          go_wp2_with fail
          exact ⟨⟨i + 1, by omega, by go_num, HX.out, HBwr.out, HKwr.out⟩, by simp [intOf]; omega⟩
      · obtain rfl : i = n := by omega
        have d2 : decide ((i : Int) < (i : Int)) = false := by simp
        have HCA := hid (show C.all clB = true by have h := HALL.out; rw [HN.out, List.take_length] at h; exact h)
        have HV := hid (show odB ⟨lv, .slice ra0 m rc, R, .slice ca0 i cc, C, ev⟩ = true from odB_true HA.out HE.out (by show C.length ≤ 16; rw [← HN.out]; exact h16) (Or.inl (by show R.length = 0; rw [← HM.out]; omega)) HCA.out)
        go_wp2_with fail
        go_ret
        exact ⟨by rw [HV.out]; rfl, HBwr.out⟩
end Go.Proofs.Ytpablkmdpoombaa
