/- The plant's Receive. -/
import Derived.Test.YtpablkmdpoombaaUnp
import Derived.Test.YtpablkmdpoombaaByt
import Derived.Test.YtpablkmdpoombaaAidC
namespace Go.Proofs.Ytpablkmdpoombaa
open Go.RowKit Go.Sort

def refusedD : Ending := .returned (.tuple #[.slice none 0 0, .int .i64 4])
def GotP (P : List Pt) (r : Ending) (w' : World) : Prop := ∃ v, r = .returned (.tuple #[v, .int .i64 0]) ∧ PtsV w' v P
theorem ptY_id {l : Int} {s s' : St} {p : Pt} (hp : ptY l s = (p, s')) (hl : 0 ≤ l) (hb : s'.bad = false) : 0 ≤ p.id ∧ p.id ≤ 1152921504606846976 := by
  have q0 := nextU_range s
  have h1 : l + (nextS false s).1 = p.id := congrArg (fun x => x.1.id) hp
  have h2 : (ptY l s).2.bad = false := by rw [hp]; exact hb
  refine ⟨by omega, Int.not_lt.1 fun hbig => ?_⟩
  have h3 : (ptY l s).2.bad = true := by
    unfold ptY
    simp only
    rw [if_pos (Or.inl (by omega))]
    rfl
  rw [h2] at h3
  exact Bool.noConfusion h3
set_option maxRecDepth 100000 in
theorem xReceive_short (p0 : Option Addr) (n cap : Nat) (w : World) (hn : n < 4) :
    Calls Try.prog 12 #[.slice p0 n cap] w fun r w' => r = refusedD ∧ Below w.heap.size w w' := by
  have d : decide ((n : Int) < 4) = true := decide_eq_true (by omega)
  go_enter Try.func12, Try.ntmps12
  go_wp2_with fail
  go_ret2
  exact ⟨rfl, Below.refl _ _⟩
set_option maxRecDepth 100000 in
set_option maxHeartbeats 12800000 in
theorem xReceive_long (b off n cap : Nat) (l : List Nat) (w : World) (hbw : b < w.heap.size) (hl : ∀ x ∈ l, x < 256) (hn : l.length = n + 4) (hx : n ≤ 800000) (hnc : n + 4 ≤ cap) (hc : cap ≤ 9223372036854775807) (hb : bytesAt w b off l.length (fun i => l.getD i 0)) :
    Calls Try.prog 12 #[.slice (some ⟨b, off, none⟩) (n + 4 : Nat) cap] w fun r w' => ((OkY l n ∧ GotP (delY (stL (l.take n))).1 r w') ∨ (¬ OkY l n ∧ r = refusedD)) ∧ Below w.heap.size w w' := by
  have HLB := hid hl
  have HBY := hid hb
  have HN := hid hn
  have HTL := hid (show (l.take n).length = n by rw [List.length_take, hn]; omega)
  have HTB := hid (show ∀ x ∈ l.take n, x < 256 from fun x hx => hl x (List.mem_of_mem_take hx))
  have HBT := hid (show bytesAt w b off (l.take n).length (fun i => (l.take n).getD i 0) from fun i hi => by
    rw [HTL.out] at hi
    rw [hb i (by omega)]
    show some (Value.int .u8 ((l.getD i 0 : Nat) : Int)) = some (Value.int .u8 (((l.take n).getD i 0 : Nat) : Int))
    rw [List.getD_eq_getElem?_getD, List.getD_eq_getElem?_getD, List.getElem?_take_of_lt hi])
  have HSUM := hid (sumOk_iff hl hn)
  have HCL := hid (bclone_any b off n cap (l.take n) w HTL.out (by omega) hbw HBT.out)
  have HOK := hid (show OkY l n ↔ SumOk l n ∧ (nextS false (stL (l.take n))).1 ≤ 1024 ∧ (delY (stL (l.take n))).2.bad = false ∧ (delY (stL (l.take n))).2.m = 0 ∧ goodL (delY (stL (l.take n))).1 = true from Iff.rfl)
  obtain ⟨OK, hok⟩ : ∃ OK : Prop, OK = OkY l n := ⟨_, rfl⟩
  rw [← hok] at HOK ⊢
  rcases e0 : nextS false (stL (l.take n)) with ⟨v0, s1⟩
  have q0 := nextU_range (stL (l.take n))
  rw [e0] at q0
  simp only at q0
  obtain ⟨D, hD⟩ : ∃ D, D = delY (stL (l.take n)) := ⟨_, rfl⟩
  have HDY := hid (show D = ptsY v0.toNat 0 s1 by rw [hD]; unfold delY; rw [e0])
  rw [← hD, e0] at HOK
  rw [← hD]
  have E0 := hid e0
  clear e0 hD
  simp only at HOK
  have d4 : decide (((n : Int) + 4) < 4) = false := decide_eq_false (by omega)
  clear hl hb hn hok
  go_enter Try.func12, Try.ntmps12
  go_wp2_with fail
  refine HCL.out.mono ?_
  rintro r w1 ⟨⟨v1, rfl, ho1⟩, hb1⟩
  have HCK := hid (checked_own w.heap.size n v1 (l.take n) w1 ho1 hb1.size (by omega) HTB.out)
  obtain ⟨a1, m1, c1, rfl⟩ : ∃ a m c, v1 = .slice a m c := by
    rcases (row_cases ho1).2 with ⟨rfl, _⟩ | ⟨g, cap, rfl, _⟩
    · exact ⟨_, _, _, rfl⟩
    · exact ⟨_, _, _, rfl⟩
  have HB1 := hid hb1
  have hz1 := hb1.size
  clear ho1 hb1
  go_wp2_with fail
  refine HCK.out.mono ?_
  rintro r w2 ⟨⟨v2, rfl, ho2⟩, hb2⟩
  have HB2 := hid (HB1.out.trans hb2)
  have HEQ := hid (bequal_any v2 (.slice (some ⟨b, off, none⟩) (n + 4 : Nat) cap) (l.take n ++ bytes4 (crcL (l.take n))) l w2 ho2.bytes ⟨_, _, by rw [HN.out], Or.inr ⟨b, off, rfl, Nat.lt_of_lt_of_le hbw HB2.out.size, bytes_still HBY.out hbw HB2.out⟩⟩ (by simp [bytes4, HTL.out]; omega))
  obtain ⟨a2, m2, c2, rfl⟩ := ho2.shape
  have hz2 := HB2.out.size
  clear ho2 hb2
  go_wp2_with fail
  refine HEQ.out.mono ?_
  rintro r w3 ⟨rfl, hb3⟩
  have HB3 := hid (HB2.out.trans (hb3.mono hz2))
  have hz3 := HB3.out.size
  clear hb3
  cases hsb : decide (l.take n ++ bytes4 (crcL (l.take n)) = l)
  · have HNO := hid (show ¬ OK from fun h => of_decide_eq_false hsb (HSUM.out.1 (HOK.out.1 h).1).symm)
    clear hsb
    go_wp2_with fail
    go_ret2
    exact ⟨Or.inr ⟨HNO.out, rfl⟩, HB3.out⟩
  · have HSY := hid (HSUM.out.2 (of_decide_eq_true hsb).symm)
    clear hsb
    obtain ⟨rb, hrb⟩ : ∃ rb, rb = w3.heap.size := ⟨_, rfl⟩
    have R3 := hid (rd_start (n := n) (cap := cap) (rb := rb) (l := l) (b := b) (off := off) (ty := 91) (w := w3.alloc (.cells #[.slice (some ⟨b, off, none⟩) n cap, .bool false] 91))
      (bytes_still HBY.out hbw (HB3.out.alloc hz3 _)) HLB.out (by rw [HN.out]; omega) (by omega) hc (by simp; omega) (heap_alloc_at _ _ _ hrb) (by omega))
    have HBW := hid (HB3.out.alloc hz3 (.cells #[.slice (some ⟨b, off, none⟩) n cap, .bool false] 91))
    have hzr : (w3.alloc (.cells #[.slice (some ⟨b, off, none⟩) n cap, .bool false] 91)).heap.size = rb + 1 := by simp [hrb]
    have hwr : w.heap.size ≤ rb := by omega
    have HRB := hid hrb
    clear hrb
    go_wp2_with fail
    rw [← HRB.out]
    generalize w3.alloc (.cells #[.slice (some ⟨b, off, none⟩) n cap, .bool false] 91) = W3 at *
    refine (unum_at _ E0.out R3.out).mono ?_
    rintro r w4 ⟨rfl, hrd, hol⟩
    have R4 := hid hrd
    have HB4 := hid (HBW.out.trans (hol.below (B := w.heap.size) hwr (by omega)))
    have hz4 := hol.size
    clear hrd hol
    by_cases hbig : 1024 < v0
    · have d0 : decide ((1024 : Int) < v0) = true := decide_eq_true hbig
      have HNO := hid (show ¬ OK from fun h => by have := (HOK.out.1 h).2.1; omega)
      clear hbig
      go_wp2_with fail
      go_ret2
      exact ⟨Or.inr ⟨HNO.out, rfl⟩, HB4.out⟩
    · have d0 : decide ((1024 : Int) < v0) = false := decide_eq_false hbig
      obtain ⟨N, rfl⟩ : ∃ N : Nat, v0 = N := ⟨v0.toNat, by omega⟩
      rw [Int.toNat_natCast] at HDY
      have hN1 : N ≤ 1024 := by omega
      obtain ⟨i0, hi, hy0, hy1, hy2⟩ := info_parts info36
      have HI := hid hi
      have HZ0 := hid hy0
      have HZ1 := hid hy1
      have HZ2 := hid hy2
      clear hbig hi hy0 hy1 hy2
      go_wp2_with fail
      go_loopw [6, 7, 36] (fun ov' lv iv W => ∃ (i : Nat) (A : List Pt) (l0 : Int) (s2 : St) (oa : Option Addr) (on oc : Nat), ov' = .slice oa on oc ∧ i ≤ N ∧ A.length = i ∧ iv = .int .i64 (i : Int) ∧ lv = .int .i64 l0 ∧ OwnP W (rb + 1) (.slice oa on oc) A ∧ RdAt W rb 91 b s2 ∧ Below w.heap.size w W ∧ (0 ≤ l0 ∧ l0 ≤ 1152921504606846976) ∧ ptsY N 0 s1 = (A ++ (ptsY (N - i) l0 s2).1, (ptsY (N - i) l0 s2).2)) (fun _ _ iv _ => N - (intOf iv).toNat)
      case atStart => exact ⟨0, [], 0, s1, none, 0, 0, rfl, by omega, rfl, rfl, rfl, OwnR.nil _ _ _ _, R4.out, HB4.out, ⟨Int.le_refl _, by decide⟩, rfl⟩
      case round =>
        obtain ⟨i, A, l0, s2, oa, on, oc, rfl, hi, hA, rfl, rfl, hown, hrd, hbl, hl0, he⟩ := hrel
        have HA := hid hA
        have HO := hid hown
        have R5 := hid hrd
        have HB5 := hid hbl
        have HE := hid he
        have hz5 := hbl.size
        have hrbw := hrd.rb_lt
        clear hA hown hrd hbl he
        by_cases hlt : i < N
        · have d1 : decide ((i : Int) < (N : Int)) = true := decide_eq_true (by omega)
          rcases hp : ptY l0 s2 with ⟨⟨q0, q1, q2, q3, q4, q5, q6, q7, q8⟩, s3⟩
          have HPQ := hid hp
          clear hp
          go_wp2_with fail
          have HPT := hid (point_any rb b l0 s2 wr R5.out hl0)
          rw [HPQ.out] at HPT
          simp only [Pt.row] at HPT
          refine HPT.out.mono ?_
          rintro r w6 ⟨rfl, hrd, hol⟩
          have HID := hid (fun h => ptY_id HPQ.out hl0.1 h)
          have HNX := hid (fun h => ptsY_next (f := N - (i + 1)) HPQ.out h)
          have HBA := hid (fun h => ptsY_bad (f := N - (i + 1)) HPQ.out h)
          simp only at HID HNX
          have R6 := hid (hrd.alloc (.cells #[.int .i64 q0, .int .i64 q1, .int .i64 q2, .int .i64 q3, .int .i64 q4, .int .i64 q5, .int .i64 q6, .int .i64 q7, .int .i64 q8] 78))
          have hz6 := hol.size
          have O6 := hid hol
          have HB6 := hid ((HB5.out.trans (hol.below (B := w.heap.size) hwr hz5)).alloc (by omega) (.cells #[.int .i64 q0, .int .i64 q1, .int .i64 q2, .int .i64 q3, .int .i64 q4, .int .i64 q5, .int .i64 q6, .int .i64 q7, .int .i64 q8] 78))
          have HO6 := hid (OwnR.grow (W' := w6.alloc (.cells #[.int .i64 q0, .int .i64 q1, .int .i64 q2, .int .i64 q3, .int .i64 q4, .int .i64 q5, .int .i64 q6, .int .i64 q7, .int .i64 q8] 78)) (HO.out.only hol (Nat.le_refl _) (by omega)) ((Below.refl _ _).alloc (Nat.le_refl _) _) : OwnP _ (rb + 1) (.slice oa on oc) A)
          have F6 := hid (heap_alloc_at w6 (.cells #[.int .i64 q0, .int .i64 q1, .int .i64 q2, .int .i64 q3, .int .i64 q4, .int .i64 q5, .int .i64 q6, .int .i64 q7, .int .i64 q8] 78) _ rfl)
          have hzz : (w6.alloc (.cells #[.int .i64 q0, .int .i64 q1, .int .i64 q2, .int .i64 q3, .int .i64 q4, .int .i64 q5, .int .i64 q6, .int .i64 q7, .int .i64 q8] 78)).heap.size = w6.heap.size + 1 := by simp
          have hpr : rb < w6.heap.size := by omega
          clear hrd hol
          have x1 := R6.out.flag.1
          cases hbad : s3.bad
          · rw [hbad] at x1
            have hidb := HID.out hbad
            have HNX2 := hid (HNX.out hbad)
            clear hbad HID HNX HBA
            have d1x : (w6.alloc (.cells #[.int .i64 q0, .int .i64 q1, .int .i64 q2, .int .i64 q3, .int .i64 q4, .int .i64 q5, .int .i64 q6, .int .i64 q7, .int .i64 q8] 78)).cell? ⟨w6.heap.size, 0, none⟩ = some (.int .i64 q0) := (cell_row (j := 0) F6.out).trans rfl
            have d2x : (w6.alloc (.cells #[.int .i64 q0, .int .i64 q1, .int .i64 q2, .int .i64 q3, .int .i64 q4, .int .i64 q5, .int .i64 q6, .int .i64 q7, .int .i64 q8] 78)).cell? ⟨w6.heap.size, 1, none⟩ = some (.int .i64 q1) := (cell_row (j := 1) F6.out).trans rfl
            have d3x : (w6.alloc (.cells #[.int .i64 q0, .int .i64 q1, .int .i64 q2, .int .i64 q3, .int .i64 q4, .int .i64 q5, .int .i64 q6, .int .i64 q7, .int .i64 q8] 78)).cell? ⟨w6.heap.size, 2, none⟩ = some (.int .i64 q2) := (cell_row (j := 2) F6.out).trans rfl
            have d4x : (w6.alloc (.cells #[.int .i64 q0, .int .i64 q1, .int .i64 q2, .int .i64 q3, .int .i64 q4, .int .i64 q5, .int .i64 q6, .int .i64 q7, .int .i64 q8] 78)).cell? ⟨w6.heap.size, 3, none⟩ = some (.int .i64 q3) := (cell_row (j := 3) F6.out).trans rfl
            have d5x : (w6.alloc (.cells #[.int .i64 q0, .int .i64 q1, .int .i64 q2, .int .i64 q3, .int .i64 q4, .int .i64 q5, .int .i64 q6, .int .i64 q7, .int .i64 q8] 78)).cell? ⟨w6.heap.size, 4, none⟩ = some (.int .i64 q4) := (cell_row (j := 4) F6.out).trans rfl
            have d6x : (w6.alloc (.cells #[.int .i64 q0, .int .i64 q1, .int .i64 q2, .int .i64 q3, .int .i64 q4, .int .i64 q5, .int .i64 q6, .int .i64 q7, .int .i64 q8] 78)).cell? ⟨w6.heap.size, 5, none⟩ = some (.int .i64 q5) := (cell_row (j := 5) F6.out).trans rfl
            have d7x : (w6.alloc (.cells #[.int .i64 q0, .int .i64 q1, .int .i64 q2, .int .i64 q3, .int .i64 q4, .int .i64 q5, .int .i64 q6, .int .i64 q7, .int .i64 q8] 78)).cell? ⟨w6.heap.size, 6, none⟩ = some (.int .i64 q6) := (cell_row (j := 6) F6.out).trans rfl
            have d8x : (w6.alloc (.cells #[.int .i64 q0, .int .i64 q1, .int .i64 q2, .int .i64 q3, .int .i64 q4, .int .i64 q5, .int .i64 q6, .int .i64 q7, .int .i64 q8] 78)).cell? ⟨w6.heap.size, 7, none⟩ = some (.int .i64 q7) := (cell_row (j := 7) F6.out).trans rfl
            have d9x : (w6.alloc (.cells #[.int .i64 q0, .int .i64 q1, .int .i64 q2, .int .i64 q3, .int .i64 q4, .int .i64 q5, .int .i64 q6, .int .i64 q7, .int .i64 q8] 78)).cell? ⟨w6.heap.size, 8, none⟩ = some (.int .i64 q8) := (cell_row (j := 8) F6.out).trans rfl
            have HRK := hid (RowsAt.one (heap_alloc_at (w6.alloc (.cells #[.int .i64 q0, .int .i64 q1, .int .i64 q2, .int .i64 q3, .int .i64 q4, .int .i64 q5, .int .i64 q6, .int .i64 q7, .int .i64 q8] 78)) _ _ (by simp)) : RowsAt ((w6.alloc (.cells #[.int .i64 q0, .int .i64 q1, .int .i64 q2, .int .i64 q3, .int .i64 q4, .int .i64 q5, .int .i64 q6, .int .i64 q7, .int .i64 q8] 78)).alloc (.cells #[.int .i64 q0, .int .i64 q1, .int .i64 q2, .int .i64 q3, .int .i64 q4, .int .i64 q5, .int .i64 q6, .int .i64 q7, .int .i64 q8] 78)) (w6.heap.size + 1) 0 9 [[.int .i64 q0, .int .i64 q1, .int .i64 q2, .int .i64 q3, .int .i64 q4, .int .i64 q5, .int .i64 q6, .int .i64 q7, .int .i64 q8]])
            have HOA := hid (OwnR.grow (W' := (w6.alloc (.cells #[.int .i64 q0, .int .i64 q1, .int .i64 q2, .int .i64 q3, .int .i64 q4, .int .i64 q5, .int .i64 q6, .int .i64 q7, .int .i64 q8] 78)).alloc (.cells #[.int .i64 q0, .int .i64 q1, .int .i64 q2, .int .i64 q3, .int .i64 q4, .int .i64 q5, .int .i64 q6, .int .i64 q7, .int .i64 q8] 78)) HO6.out ((Below.refl _ _).alloc (Nat.le_refl _) _) : OwnR _ (rb + 1) 78 9 (.slice oa on oc) (A.map Pt.row))
            have RB := hid (R6.out.alloc (.cells #[.int .i64 q0, .int .i64 q1, .int .i64 q2, .int .i64 q3, .int .i64 q4, .int .i64 q5, .int .i64 q6, .int .i64 q7, .int .i64 q8] 78))
            have OB := hid (HB6.out.alloc HB6.out.size (.cells #[.int .i64 q0, .int .i64 q1, .int .i64 q2, .int .i64 q3, .int .i64 q4, .int .i64 q5, .int .i64 q6, .int .i64 q7, .int .i64 q8] 78))
            have HL1 := hid (show (A.map Pt.row).length + 1 ≤ maxLen by rw [List.length_map, HA.out]; unfold maxLen; omega)
            have HL2 := hid (show ((A.map Pt.row).length + 1) * 72 ≤ 140737488355328 by rw [List.length_map, HA.out]; omega)
            have HBS := hid (show rb + 1 ≤ ((w6.alloc (.cells #[.int .i64 q0, .int .i64 q1, .int .i64 q2, .int .i64 q3, .int .i64 q4, .int .i64 q5, .int .i64 q6, .int .i64 q7, .int .i64 q8] 78)).alloc (.cells #[.int .i64 q0, .int .i64 q1, .int .i64 q2, .int .i64 q3, .int .i64 q4, .int .i64 q5, .int .i64 q6, .int .i64 q7, .int .i64 q8] 78)).heap.size by simp; omega)
            go_wp2_with (first
              | (at_builtin
                 go_loud (refine wpList_append_rows rfl (.tmp 47) (.tmp 49) 22 rfl (rb + 1) 78 i0 _ 9 72 Try.underlying22 HI.out HZ0.out HZ1.out HZ2.out rfl (by decide) _ (A.map Pt.row) [[.int .i64 q0, .int .i64 q1, .int .i64 q2, .int .i64 q3, .int .i64 q4, .int .i64 q5, .int .i64 q6, .int .i64 q7, .int .i64 q8]] rfl HOA.out (w6.heap.size + 1) 0 1 1 rfl rfl HRK.out (wide9d _ _ _ _ _ _ _ _ _) HL1.out HL2.out HBS.out ?_)
                 intro v10 W7 hown6 hg6 z6
                 clear z6
                 have HO7 := hid (show OwnP W7 (rb + 1) v10 (A ++ [⟨q0, q1, q2, q3, q4, q5, q6, q7, q8⟩]) by unfold OwnP; rw [List.map_append]; exact hown6)
                 have R7 := hid (RB.out.kept hg6 (fun e => by have := OwnR.ownBlock HOA.out rb e.symm; omega) (fun e => by have h1 := OwnR.ownBlock HOA.out b e.symm; omega))
                 have HB7 := hid (OB.out.grown hg6 (by have := OB.out.size; omega) (fun k e => by have := OwnR.ownBlock HOA.out k e; omega))
                 clear hown6 hg6))
            obtain ⟨oa6, oc6, hv6⟩ := HO7.out.slice
            refine ⟨⟨i + 1, A ++ [⟨q0, q1, q2, q3, q4, q5, q6, q7, q8⟩], q0, s3, oa6, _, oc6, hv6, by omega, by simp [HA.out], by go_num, rfl, hv6 ▸ HO7.out, R7.out, HB7.out, hidb, ?_⟩, by simp [intOf]; omega⟩
            rw [HE.out, show N - i = (N - (i + 1)) + 1 by omega, HNX2.out]
            simp
          · rw [hbad] at x1
            have HNO := hid (show ¬ OK from fun h => by
              have h2 := (HOK.out.1 h).2.2.1
              have h3 := HBA.out hbad
              rw [HDY.out, HE.out, show N - i = (N - (i + 1)) + 1 by omega, h3] at h2
              exact Bool.noConfusion (h2.symm.trans hbad))
            clear hbad HID HNX HBA
            go_wp2_with fail
            go_ret2
            exact ⟨Or.inr ⟨HNO.out, rfl⟩, HB6.out⟩
        · obtain rfl : i = N := by omega
          have HF := hid (show ptsY i 0 s1 = (A, s2) by rw [HE.out, Nat.sub_self]; simp [ptsY])
          have HDD := hid (HDY.out.trans HF.out)
          rw [HDD.out] at HOK
          simp only at HOK
          have d1 : decide ((i : Int) < (i : Int)) = false := by simp
          have x1 := R5.out.flag.1
          obtain ⟨m5, hm5⟩ : ∃ m5, m5 = s2.m := ⟨_, rfl⟩
          rw [← hm5] at HOK
          obtain ⟨so, sc, x0⟩ : ∃ so sc, wr.cell? ⟨rb, 0, none⟩ = some (.slice (some ⟨b, so, none⟩) m5 sc) := by
            obtain ⟨o, c, hr, _⟩ := R5.out
            exact ⟨o, c, by rw [cell_row hr, hm5]; rfl⟩
          clear hm5
          have HGD := hid (goods_any (.slice oa on oc) A wr (OwnP.ptsV HO.out) (by rw [HA.out]; unfold maxLen; omega))
          cases hbad : s2.bad
          · rw [hbad] at x1 HOK
            clear hbad
            by_cases hm : m5 = 0
            · subst hm
              go_wp2_with fail
              refine HGD.out.mono ?_
              rintro r w8 ⟨rfl, hb8⟩
              have HB8 := hid (HB5.out.trans (hb8.mono hz5))
              have HP8 := hid ((OwnP.ptsV HO.out).still hb8)
              clear hb8
              cases hg : goodL A
              · have HNO := hid (show ¬ OK from fun h => by have h2 := (HOK.out.1 h).2.2.2.2; rw [hg] at h2; exact Bool.noConfusion h2)
                clear hg
                go_wp2_with fail
                go_ret2
                exact ⟨Or.inr ⟨HNO.out, rfl⟩, HB8.out⟩
              · have HYES := hid (show OK from HOK.out.2 ⟨HSY.out, by omega, by first | rfl | trivial, by first | rfl | trivial, hg⟩)
                clear hg
                go_wp2_with fail
                go_ret2
                exact ⟨Or.inl ⟨HYES.out, _, rfl, by rw [HDD.out]; exact HP8.out⟩, HB8.out⟩
            · have d2 : decide ((0 : Int) < (m5 : Int)) = true := decide_eq_true (by omega)
              have HNO := hid (show ¬ OK from fun h => hm (HOK.out.1 h).2.2.2.1)
              have hm0 : 0 < m5 := by omega
              clear hm
              go_wp2_with fail
              go_ret2
              exact ⟨Or.inr ⟨HNO.out, rfl⟩, HB5.out⟩
          · rw [hbad] at x1 HOK
            clear hbad
            have HNO := hid (show ¬ OK from fun h => by have h2 := (HOK.out.1 h).2.2.1; exact Bool.noConfusion h2)
            go_wp2_with fail
            go_ret2
            exact ⟨Or.inr ⟨HNO.out, rfl⟩, HB5.out⟩
end Go.Proofs.Ytpablkmdpoombaa
