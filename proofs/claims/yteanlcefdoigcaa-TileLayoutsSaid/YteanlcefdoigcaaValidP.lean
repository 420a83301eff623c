/- Which lists of points are valid: what the program returns, for every list. -/
import Derived.Test.YteanlcefdoigcaaPoint
import Derived.Test.YteanlcefdoigcaaMapV
namespace Go.Proofs.Yteanlcefdoigcaa
open Go.RowKit Go.Maps

/-- n points of nine numbers each behind an address -/
def recs9 (w : World) (b off n : Nat) (F : Nat → Nat → Int) : Prop := ∀ i, i < n → ∀ j, j < 9 → w.cell? ⟨b, off + i * 9 + j, none⟩ = some (.int .i64 (F i j))
theorem recs9.still {w w' : World} {b off n B : Nat} {F : Nat → Nat → Int} (h : recs9 w b off n F) (hb : Below B w w') (hB : b < B) : recs9 w' b off n F :=
  fun i hi j hj => by rw [hb.cell hB]; exact h i hi j hj
/-- the first n of them all -/
def allN (p : Nat → Bool) : Nat → Bool
  | 0 => true
  | k + 1 => allN p k && p k
theorem allN_next {p : Nat → Bool} {k : Nat} (h : allN p k = true) (h2 : p k = true) : allN p (k + 1) = true := by simp [allN, h, h2]
theorem allN_stop {p : Nat → Bool} {n k : Nat} (hk : k < n) (h : p k = false) : allN p n = false := by
  induction n with
  | zero => omega
  | succ n ih =>
    by_cases he : k = n
    · subst he; simp [allN, h]
    · simp [allN, ih (by omega)]
theorem allN_iff {p : Nat → Bool} {n : Nat} : allN p n = true ↔ ∀ i, i < n → p i = true := by
  induction n with
  | zero => simp [allN]
  | succ n ih =>
    simp only [allN, Bool.and_eq_true, ih]
    constructor
    · rintro ⟨h1, h2⟩ i hi
      by_cases he : i = n
      · subst he; exact h2
      · exact h1 i (by omega)
    · intro h; exact ⟨fun i hi => h i (by omega), h n (by omega)⟩
def ptB (p : Nat → Int) : Bool := pointB (p 0) (p 1) (p 2) (p 3) (p 4) (p 5) (p 6) (p 7)
/-- point i is valid and has an Id that none before it has -/
def newB (F : Nat → Nat → Int) (i : Nat) : Bool := ptB (F i) && !(List.range i).any (fun j => F j 0 == F i 0)
def validV (F : Nat → Nat → Int) (n : Nat) : Bool := decide (n ≤ 1024) && allN (newB F) n
/-- the map of the Ids seen -/
def seenG (F : Nat → Nat → Int) (k : Nat) : Lit → Option Value := fun l => if (List.range k).any (fun j => (Lit.int .i64 (F j 0)).sameKey l) then some (.bool true) else none
theorem law3 : Keyed Try.prog 3 := int_keyed Try.underlying3
theorem zero4 (w : World) : (zeroValue 4).run Try.prog w = .ok (.bool false) w := by kernel_rfl
theorem int_ne {a b : Int} (h : a ≠ b) : Lit.int .i64 a ≠ Lit.int .i64 b := fun e => h (by injection e)
theorem same_int (a b : Int) : (Lit.int .i64 a).sameKey (.int .i64 b) = (a == b) := by
  by_cases h : a = b
  · subst h
    rw [beq_self_eq_true]
    exact WideAt.sameKey_self trivial
  · rw [sameKey_ne (int_ne h)]
    simp [h]
theorem seen_look (F : Nat → Nat → Int) (k : Nat) (x : Int) : (seenG F k (.int .i64 x)).getD (.bool false) = .bool ((List.range k).any (fun j => F j 0 == x)) := by
  unfold seenG
  simp only [same_int]
  cases (List.range k).any (fun j => F j 0 == x) <;> rfl
theorem seen_put (F : Nat → Nat → Int) (k : Nat) : putG (seenG F k) (.int .i64 (F k 0)) (.bool true) = seenG F (k + 1) := by
  funext l
  by_cases h : l = .int .i64 (F k 0)
  · subst h
    rw [putG_same (show WideAt.IsKeyLit (Lit.int .i64 (F k 0)) from trivial)]
    unfold seenG
    rw [List.range_succ, List.any_append]
    simp [same_int]
  · rw [putG_other h]
    unfold seenG
    rw [List.range_succ, List.any_append]
    simp [sameKey_ne (Ne.symm h)]
theorem pointB_id {p : Nat → Int} (h : ptB p = true) : 0 ≤ p 0 ∧ p 0 ≤ 1152921504606846976 := by
  unfold ptB pointB at h
  simp [inB] at h
  omega
set_option maxRecDepth 100000 in
set_option maxHeartbeats 1600000 in
theorem valid_any (b off n c : Nat) (F : Nat → Nat → Int) (w : World) (hn0 : 0 < n) (hbw : b < w.heap.size) (hr : recs9 w b off n F) :
    Calls Try.prog 93 #[.slice (some ⟨b, off, none⟩) n c] w fun r w' => r = .returned (.bool (validV F n)) ∧ Below w.heap.size w w' := by
  have HC := hid hr
  clear hr
  by_cases hn : n ≤ 1024
  · have hmm := fun (x : Int) (W : World) => (show (Instr.makeMap 137 (some (.int .i64 x))).run Try.prog W = .ok (.map (some W.heap.size)) (W.alloc (.map #[] 0)) by simp [Instr.makeMap, run_underlying Try.underlying137, asInt, newObj]; rfl)
    have hp : ¬ (1024 : Int) < (n : Int) := by omega
    have hd : decide ((1024 : Int) < (n : Int)) = false := decide_eq_false hp
    go_enter Try.func93, Try.ntmps93
    go_wp2_with fail
    go_loopw [14] (fun iv W => ∃ k : Nat, k ≤ n ∧ iv = .int .i64 (k : Int) ∧ allN (newB F) k = true ∧ MapAt Try.prog W 3 w.heap.size k (seenG F k) ∧ Below w.heap.size w W ∧ w.heap.size < W.heap.size) (fun iv _ => n - (intOf iv).toNat)
    case atStart => exact ⟨0, by omega, rfl, rfl, MapAt.made w, (Below.refl _ _).alloc (Nat.le_refl _) _, by simp⟩
    case round =>
      obtain ⟨k, hk, rfl, hall, hmap, hB, hzw⟩ := hrel
      have HBwr := hid hB
      have hzwr := hB.size
      have HA := hid hall
      have HM := hid hmap
      clear hall hmap
      by_cases hlt : k < n
      · have hcs := HC.out.still hB hbw k hlt
        have c0 := hcs 0 (by decide)
        have c1 := hcs 1 (by decide)
        have c2 := hcs 2 (by decide)
        have c3 := hcs 3 (by decide)
        have c4 := hcs 4 (by decide)
        have c5 := hcs 5 (by decide)
        have c6 := hcs 6 (by decide)
        have c7 := hcs 7 (by decide)
        have c8 := hcs 8 (by decide)
        rw [Nat.add_zero] at c0
        have HST := hid (fun bb (h : newB F k = bb) => h)
        have HPT := hid (show newB F k = (pointB (F k 0) (F k 1) (F k 2) (F k 3) (F k 4) (F k 5) (F k 6) (F k 7) && !(List.range k).any (fun j => F j 0 == F k 0)) from rfl)
        have HID := hid (fun h : pointB (F k 0) (F k 1) (F k 2) (F k 3) (F k 4) (F k 5) (F k 6) (F k 7) = true => @pointB_id (F k) h)
        have HNX := hid (fun h : newB F k = true => allN_next HA.out h)
        have HX := hid (fun h : newB F k = false => show validV F n = false by unfold validV; rw [allN_stop hlt h]; simp)
        have HLK := hid (seen_look F k (F k 0))
        have HSP := hid (seen_put F k)
        clear hB hcs HST
        generalize F k 0 = p0 at *
        generalize F k 1 = p1 at *
        generalize F k 2 = p2 at *
        generalize F k 3 = p3 at *
        generalize F k 4 = p4 at *
        generalize F k 5 = p5 at *
        generalize F k 6 = p6 at *
        generalize F k 7 = p7 at *
        generalize F k 8 = p8 at *
        by_cases hp : pointB p0 p1 p2 p3 p4 p5 p6 p7 = true
        · have HP := hid hp
          have hwf : (Lit.int .i64 p0).wf = true := WalkArith.wf_i64 (by have := HID.out hp; omega)
          have HKEY := hid (keyOf_int_mk Try.underlying3 hwf)
          clear hp hwf
          go_wp2_with fail
          have HX1 := hid (heap_alloc_at wr (.cells #[.int .i64 p0, .int .i64 p1, .int .i64 p2, .int .i64 p3, .int .i64 p4, .int .i64 p5, .int .i64 p6, .int .i64 p7, .int .i64 p8] 36) _ rfl)
          have HM1 := hid (HM.out.grow ((Below.refl _ _).alloc (Nat.le_refl _) (.cells #[.int .i64 p0, .int .i64 p1, .int .i64 p2, .int .i64 p3, .int .i64 p4, .int .i64 p5, .int .i64 p6, .int .i64 p7, .int .i64 p8] 36)))
          refine (xPoint_any _ _ _ _ _ _ _ _ _ _).mono ?_
          rintro r w1 ⟨rfl, hb⟩
          rw [HP.out]
          have hs1 := hb.size
          simp at hs1
          have q0 : w1.cell? ⟨wr.heap.size, 0, none⟩ = some (.int .i64 p0) := (cell_row (j := 0) (heap_still hb HX1.out)).trans rfl
          have HM2 := hid (HM1.out.grow hb)
          have HB1 := hid (show Below w.heap.size w w1 from (HBwr.out.alloc hzwr _).trans (hb.mono (by simp; omega)))
          have hlook := HM2.out.look law3 Try.underlying137 (zero4 w1) HKEY.out
          rw [HLK.out] at hlook
          clear hb HM HM1
          cases hq : (List.range k).any (fun j => F j 0 == p0)
          · rw [hq] at hlook
            have HNB := hid (HNX.out (by rw [HPT.out, HP.out, hq]; rfl))
            clear hq
            go_wp2_with (at_mapUpdate; refine wpList_put rfl (.tmp 27) (.tmp 29) (.const (.bool true)) 137 rfl law3 Try.underlying137 rfl HM2.out (by unfold maxLen; omega) (.int .i64 p0) (.bool true) (.int .i64 p0) rfl rfl HKEY.out ?_; intro w2 hm2 hg2)
            rw [HSP.out] at hm2
            have hs2 := hg2.size
            exact ⟨⟨k + 1, by omega, by go_num, HNB.out, hm2, HB1.out.grown hg2 (by omega) (fun j hj => by injection hj with hj; omega), by omega⟩, by simp [intOf]; omega⟩
          · rw [hq] at hlook
            have HNB := hid (HX.out (by rw [HPT.out, HP.out, hq]; rfl))
            clear hq
            go_wp2_with fail
            go_ret
            exact ⟨by rw [HNB.out]; rfl, HB1.out⟩
        · have HP := hid (Bool.eq_false_iff.2 hp)
          clear hp
          have HNB := hid (HX.out (by rw [HPT.out, HP.out]; rfl))
          go_wp2_with fail
          refine (xPoint_any _ _ _ _ _ _ _ _ _ _).mono ?_
          rintro r w1 ⟨rfl, hb⟩
          rw [HP.out]
          have HB1 := hid (show Below w.heap.size w w1 from (HBwr.out.alloc hzwr _).trans (hb.mono (by simp; omega)))
          clear hb
          go_wp2_with fail
          go_ret
          exact ⟨by rw [HNB.out]; rfl, HB1.out⟩
      · obtain rfl : k = n := by omega
        have HV := hid (show validV F k = true by unfold validV; rw [HA.out]; simp; omega)
        clear hB
        go_wp2_with fail
        go_ret
        exact ⟨by rw [HV.out]; rfl, HBwr.out⟩
  · have HV := hid (show validV F n = false by simp [validV, hn])
    have hp : (1024 : Int) < (n : Int) := by omega
    have hd : decide ((1024 : Int) < (n : Int)) = true := decide_eq_true hp
    clear hn
    go_enter Try.func93, Try.ntmps93
    go_wp2_with fail
    go_ret
    exact ⟨by rw [HV.out]; rfl, Below.refl _ _⟩
end Go.Proofs.Yteanlcefdoigcaa
