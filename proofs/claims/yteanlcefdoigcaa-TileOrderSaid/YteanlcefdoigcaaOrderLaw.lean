/- TileOrder: the layout does not depend on the order of the points, for at most 60 points and at most 80 exchanges; otherwise the law answers by itself. Every input, no condition. -/
import Derived.Test.YteanlcefdoigcaaSwapT
import Derived.Test.YteanlcefdoigcaaAwake
import Derived.Test.YteanlcefdoigcaaLawKit
import Derived.Test.YteanlcefdoigcaaOpenP
import Derived.Test.YteanlcefdoigcaaCellsM
namespace Go.Proofs.Yteanlcefdoigcaa
open Go.ChangeShapes Go.WideShapes Go.ChangeAt Go.RowKit Go.Sort

theorem size36s : (Try.prog.info? 36).map (·.size) = some 9 := by kernel_rfl
/-- between two exchanges -/
def OrdRel (w : World) (S : List Pt) (m : Nat) (mv iv : Value) (W : World) : Prop :=
  ∃ (k : Nat) (L : List Pt), k ≤ m ∧ iv = .int .i64 (k : Int) ∧ L.Perm S ∧ OwnP W w.heap.size mv L ∧ Below w.heap.size w W
theorem own_swap {W : World} {base g n cap x y : Nat} {C : Array Value} {L : List Pt} {p q : Pt} (h : OwnP W base (.slice (some ⟨g, 0, none⟩) n cap) L) (hC : W.heap[g]? = some (.cells C 36)) (hx : L[x]? = some p) (hy : L[y]? = some q) :
    OwnP ((W.setRow g (ptL C (x * 9) q.row)).setRow g (ptL (ptL C (x * 9) q.row) (y * 9) p.row)) base (.slice (some ⟨g, 0, none⟩) n cap) ((L.set x q).set y p) := by
  have hx1 : x < L.length := (List.getElem?_eq_some_iff.1 hx).1
  have hy1 : y < L.length := (List.getElem?_eq_some_iff.1 hy).1
  have h1 := own_set h hC (i := x) (r := q.row) (by simpa using hx1) rfl (Pt.row_one q)
  have h2 := own_set h1 (setRow_heap _ _ _ _ _ _ hC) (i := y) (r := p.row) (by simpa using hy1) rfl (Pt.row_one p)
  unfold OwnP
  rw [List.map_set, List.map_set]
  exact h2
theorem below_row {B : Nat} {w W : World} {g : Nat} {X : Array Value} (h : Below B w W) (hg : B ≤ g) : Below B w (W.setRow g X) := below_setRow h hg _
set_option maxRecDepth 100000 in
set_option maxHeartbeats 6400000 in
theorem order_law (pv ov : Value) (S : List Pt) (zs : List Int) (c : Int) (w : World) (hp : PtsV w pv S) (hp0 : NilV pv) (ho : IntsV w ov zs) (hnS : S.length ≤ 9223372036854775807) (hnz : zs.length ≤ 9223372036854775807) :
    Calls Try.prog 4 #[pv, ov, .int .i64 c] w fun r w' => r = .returned (.bool true) ∧ Below w.heap.size w w' := by
  have HP := hid hp
  obtain ⟨pa, pc, rfl, hpd⟩ := hp
  obtain ⟨oa, oc, rfl, hod⟩ := ho
  obtain ⟨n, hn⟩ : ∃ n, n = S.length := ⟨_, rfl⟩
  obtain ⟨m, hm⟩ : ∃ m, m = zs.length := ⟨_, rfl⟩
  rw [← hn] at hnS hp0 HP ⊢
  rw [← hm] at hnz ⊢
  have HN := hid hn
  have HM := hid hm
  have HNS := hid hnS
  have HNZ := hid hnz
  clear hnS hnz
  have HP0 := hid hp0
  have HPD := hid hpd
  have HOD := hid hod
  clear hn hm hp0 hpd hod
  by_cases h60 : 60 < n
  · have d1 : decide ((60 : Int) < (n : Int)) = true := decide_eq_true (by omega)
    go_enter Try.func4, Try.ntmps4
    go_wp2_with fail
    refine (awake_any _).mono ?_
    rintro r w9 ⟨rfl, hb⟩
    have HB9 := hid (show Below w.heap.size w w9 from (Below.refl _ _ : Below w.heap.size w w).trans (hb.mono (Below.refl _ _ : Below w.heap.size w w).size))
    clear hb
    go_wp2_with fail
    go_ret
    exact ⟨rfl, HB9.out⟩
  have d1 : decide ((60 : Int) < (n : Int)) = false := decide_eq_false (by omega)
  by_cases h80 : 80 < m
  · have d2 : decide ((80 : Int) < (m : Int)) = true := decide_eq_true (by omega)
    go_enter Try.func4, Try.ntmps4
    go_wp2_with fail
    refine (awake_any _).mono ?_
    rintro r w9 ⟨rfl, hb⟩
    have HB9 := hid (show Below w.heap.size w w9 from (Below.refl _ _ : Below w.heap.size w w).trans (hb.mono (Below.refl _ _ : Below w.heap.size w w).size))
    clear hb
    go_wp2_with fail
    go_ret
    exact ⟨rfl, HB9.out⟩
  have d2 : decide ((80 : Int) < (m : Int)) = false := decide_eq_false (by omega)
  go_enter Try.func4, Try.ntmps4
  go_wp2_with fail
  refine (rvalid_list _ S w HP.out).mono ?_
  rintro r w1 ⟨rfl, hb1⟩
  have HB1 := hid hb1
  have HP1 := hid (HP.out.still hb1)
  have hs1 := hb1.size
  clear hb1
  cases hg : goodL S
  · go_wp2_with fail
    refine (awake_any _).mono ?_
    rintro r w9 ⟨rfl, hb⟩
    have HB9 := hid (show Below w.heap.size w w9 from HB1.out.trans (hb.mono HB1.out.size))
    clear hb
    go_wp2_with fail
    go_ret
    exact ⟨rfl, HB9.out⟩
  have HG := hid hg
  clear hg
  by_cases hc1 : c < 1
  · have d3 : decide (c < 1) = true := decide_eq_true hc1
    go_wp2_with fail
    refine (awake_any _).mono ?_
    rintro r w9 ⟨rfl, hb⟩
    have HB9 := hid (show Below w.heap.size w w9 from HB1.out.trans (hb.mono HB1.out.size))
    clear hb
    go_wp2_with fail
    go_ret
    exact ⟨rfl, HB9.out⟩
  have d3 : decide (c < 1) = false := decide_eq_false hc1
  by_cases hc2 : 64 < c
  · have d4 : decide (64 < c) = true := decide_eq_true hc2
    go_wp2_with fail
    refine (awake_any _).mono ?_
    rintro r w9 ⟨rfl, hb⟩
    have HB9 := hid (show Below w.heap.size w w9 from HB1.out.trans (hb.mono HB1.out.size))
    clear hb
    go_wp2_with fail
    go_ret
    exact ⟨rfl, HB9.out⟩
  have d4 : decide (64 < c) = false := decide_eq_false hc2
  obtain ⟨i0, hi, hz0, hz1, hz2⟩ := info_parts info36
  have HI := hid hi
  have HZ0 := hid hz0
  have HZ1 := hid hz1
  have HZ2 := hid hz2
  clear hi hz0 hz1 hz2
  have HO3 := hid (show OwnR (w1.alloc (.cells #[] 36)) w.heap.size 36 9 (.slice (some ⟨w1.heap.size, 0, none⟩) 0 0) [] from ⟨Wide.nil 9, rfl, Or.inr ⟨_, 0, #[], rfl, hs1, (by repeat' (first | (refine heap_alloc_at _ _ _ ?_; (first | rfl | (simp; done) | (simp; omega))) | (refine heap_alloc_past _ _ _ _ ?_))), Nat.le_refl _, by unfold maxLen; omega, rfl, rfl⟩⟩)
  have HX3 := hid (show ((S.map Pt.row = [] ∧ (pa = none → pc = 0)) ∨ ∃ b off, pa = some ⟨b, off, none⟩ ∧ RowsAt (w1.alloc (.cells #[] 36)) b off 9 (S.map Pt.row)) by
    rcases HPD.out with h | ⟨b, off, h1, h2, h3⟩
    · refine Or.inl ⟨by rw [h]; rfl, fun e => HP0.out pc ?_⟩
      have hn0 : n = 0 := by rw [HN.out, h]; rfl
      rw [e, hn0]
    · exact Or.inr ⟨b, off, h1, (h3.still HB1.out h2).still ((Below.refl _ _).alloc (Nat.le_refl _) _) (Nat.lt_of_lt_of_le h2 HB1.out.size)⟩)
  have HLN := hid (show (S.map Pt.row).length = n by rw [List.length_map]; exact HN.out.symm)
  have HL1 := hid (show ([] : List (List Value)).length + (S.map Pt.row).length ≤ maxLen by rw [HLN.out]; show 0 + n ≤ maxLen; unfold maxLen; omega)
  have HL2 := hid (show (([] : List (List Value)).length + (S.map Pt.row).length) * 72 ≤ 140737488355328 by rw [HLN.out]; show (0 + n) * 72 ≤ _; omega)
  have HL3 := hid (show w.heap.size ≤ (w1.alloc (.cells #[] 36)).heap.size by simp; omega)
  have HWD := hid (wide_map (enc := Pt.row) (k := 9) (fun _ => rfl) Pt.row_one S)
  go_wp2_with (first
    | (at_builtin
       refine wpList_append_rowsV rfl (.tmp 38) (.tmp 39) 22 rfl w.heap.size 36 i0 _ 9 72 Try.underlying22 HI.out HZ0.out HZ1.out HZ2.out rfl (by decide) _ [] (S.map Pt.row) rfl HO3.out pa n pc HLN.out.symm rfl HX3.out HWD.out HL1.out HL2.out HL3.out ?_
       intro v4 W4 hown4 hg4 z5
       clear z5
       have HO4 := hid (show OwnP W4 w.heap.size v4 S from hown4)
       have HB4 := hid (show Below w.heap.size w W4 from (HB1.out.alloc hs1 _).grown hg4 (base_alloc hs1 _) (fun k hk => by have e : some w1.heap.size = some k := hk; injection e with e; omega))
       clear hown4 hg4))
  obtain ⟨ma, mcap, hmv⟩ := OwnP.slice HO4.out
  rw [← HN.out] at hmv
  subst hmv
  go_loopw [43] (fun iv W => OrdRel w S m (.slice ma n mcap) iv W) (fun iv _ => m - (intOf iv).toNat)
  case atStart => exact ⟨0, S, by omega, rfl, List.Perm.refl _, HO4.out, HB4.out⟩
  case round =>
    obtain ⟨k, Lp, hk, rfl, hpm, hoL, hB⟩ := hrel
    have HPM := hid hpm
    have HOL := hid hoL
    have HBW := hid hB
    have hzw := hB.size
    by_cases hlt : k < m
    · obtain ⟨z, hz⟩ : ∃ z, zs[k]? = some z := ⟨_, List.getElem?_eq_getElem (by rw [← HM.out]; exact hlt)⟩
      have hzne : zs ≠ [] := fun e => by rw [e] at hz; simp at hz
      obtain ⟨ob, oo, rfl, hob, hoc⟩ := HOD.out.resolve_left hzne
      have c0 : wr.cell? ⟨ob, oo + k, none⟩ = some (.int .i64 z) := by rw [hB.cell hob]; exact hoc k z hz
      have d5 : decide ((k : Int) < (m : Int)) = true := decide_eq_true (by omega)
      clear hpm hoL hB hz hzne hoc HOD
      by_cases hn0 : n = 0
      · subst hn0
        go_wp2_with fail
        exact ⟨⟨k + 1, Lp, by omega, by go_num, HPM.out, HOL.out, HBW.out⟩, by simp [intOf]; omega⟩
      · have d6 : decide ((0 : Int) < (n : Int)) = true := decide_eq_true (by omega)
        have hnz : (n : Int) ≠ 0 := by omega
        go_wp2_with fail
        refine wp_region_quiet_below (by kernel_rfl) (by kernel_rfl) ?_
        repeat (first | go_big_quiet_step (fail) | quiet_step (fail))
        refine wpQuiet_nil ?_
        intro _ hw'
        obtain ⟨⟨dq, osq⟩, hw2⟩ := hw'
        subst hw2
        have hbq := below_regrown wr dq osq
        generalize Sort.grow (redrawn wr dq) osq = V at hbq ⊢
        have HOV := hid (OwnR.grow' HOL.out hbq)
        have HBV := hid (HBW.out.trans (hbq.mono hzw))
        clear hbq c0
        obtain ⟨x, hx, hxn⟩ : ∃ x : Nat, (k : Int) % (n : Int) = (x : Int) ∧ x < n := ⟨k % n, by omega, Nat.mod_lt _ (by omega)⟩
        obtain ⟨y, hy, hyn⟩ : ∃ y : Nat, wrap64 ((IntKind.u64.wrap z).tmod (n : Int)) = (y : Int) ∧ y < n := by
          have h0 := wrap_u64_nonneg z
          have h1 := Int.tmod_nonneg (n : Int) h0
          have h2 := Int.tmod_lt_of_pos (IntKind.u64.wrap z) (show (0 : Int) < (n : Int) by omega)
          refine ⟨((IntKind.u64.wrap z).tmod (n : Int)).toNat, ?_, by omega⟩
          generalize (IntKind.u64.wrap z).tmod (n : Int) = t at *
          unfold wrap64
          omega
        rw [hx, hy]
        clear hx hy
        have hLn : Lp.length = n := by rw [HPM.out.length_eq]; exact HN.out.symm
        obtain ⟨p, hp⟩ : ∃ p, Lp[x]? = some p := ⟨_, List.getElem?_eq_getElem (by omega)⟩
        obtain ⟨q, hq⟩ : ∃ q, Lp[y]? = some q := ⟨_, List.getElem?_eq_getElem (by omega)⟩
        obtain ⟨g, gcap, hsl, hgb, hgs, hcells⟩ := OwnP.cells HOV.out (by omega)
        injection hsl with hsl hnn hcap
        clear hnn
        subst hsl hcap
        obtain ⟨z1, C, z2, hC, hle, z3, hCs, z4⟩ := own_parts HOV.out
        clear z1 z2 z3 z4
        rw [List.length_map, hLn] at hle
        have hCn : n * 9 ≤ C.size := by rw [hCs]; exact Nat.mul_le_mul_right 9 hle
        have YC := hid hC
        have YP := hid (fun j hj => hcells x p hp j hj)
        have YQ := hid (fun j hj => hcells y q hq j hj)
        have HPX := hid hp
        have HQY := hid hq
        have HLN2 := hid hLn
        clear hcells hC hp hq hCs hle hLn
        obtain ⟨p0, p1, p2, p3, p4, p5, p6, p7, p8⟩ := p
        obtain ⟨q0, q1, q2, q3, q4, q5, q6, q7, q8⟩ := q
        go_wp2_with fail
        refine gen_act (fun A0 hA => ?_)
        refine wp_region_by (by kernel_rfl) (by kernel_rfl) [some 62, some 63, some 64, some 65, some 66, some 67, some 68, some 69, some 70, some 71, some 72, some 73, some 74, none, some 75, none] rfl (by decide) (TwoT V.drew (V.drew.setRow g (ptL C (x * 9) [.int .i64 q0, .int .i64 q1, .int .i64 q2, .int .i64 q3, .int .i64 q4, .int .i64 q5, .int .i64 q6, .int .i64 q7, .int .i64 q8])) ((V.drew.setRow g (ptL C (x * 9) [.int .i64 q0, .int .i64 q1, .int .i64 q2, .int .i64 q3, .int .i64 q4, .int .i64 q5, .int .i64 q6, .int .i64 q7, .int .i64 q8])).setRow g (ptL (ptL C (x * 9) [.int .i64 q0, .int .i64 q1, .int .i64 q2, .int .i64 q3, .int .i64 q4, .int .i64 q5, .int .i64 q6, .int .i64 q7, .int .i64 q8]) (y * 9) [.int .i64 p0, .int .i64 p1, .int .i64 p2, .int .i64 p3, .int .i64 p4, .int .i64 p5, .int .i64 p6, .int .i64 p7, .int .i64 p8])) 13 15 [0, 1, 4, 5, 6, 7, 11, 12] [.slice (some ⟨g, 0, none⟩) n mcap, .int .i64 (x : Int), .slice (some ⟨g, 0, none⟩) n mcap, .int .i64 (y : Int), .slice (some ⟨g, 0, none⟩) n mcap, .int .i64 (y : Int), .pointer (some ⟨g, y * 9, none⟩), .agg #[.int .i64 q0, .int .i64 q1, .int .i64 q2, .int .i64 q3, .int .i64 q4, .int .i64 q5, .int .i64 q6, .int .i64 q7, .int .i64 q8], .slice (some ⟨g, 0, none⟩) n mcap, .int .i64 (x : Int), .pointer (some ⟨g, x * 9, none⟩), .agg #[.int .i64 p0, .int .i64 p1, .int .i64 p2, .int .i64 p3, .int .i64 p4, .int .i64 p5, .int .i64 p6, .int .i64 p7, .int .i64 p8], .pointer (some ⟨g, x * 9, none⟩), undef, .pointer (some ⟨g, y * 9, none⟩), undef]) (selfF A0 _) (putF_self A0 _) TwoT.start ?hs1_9_W1 ?hend_9_W1
        case hs1_9_W1 =>
          refine ⟨?_, ?_, ?_, ?_, ?_, ?_, ?_, ?_, ?_, ?_, ?_, ?_, ?_, ?_, ?_, ?_, trivial⟩
          · intro K L us W hK0 hL hd hR
            have hK := hid (fun v A' h1 h2 => hK0 v A' W h1 (hR.pure 0 (by decide) (by decide) h2)); clear hK0
            (try simp [Region.binds] at hd)
            clear hd hR
            simp only [putF]
            rw [hA]
            go_frame
            go_wp2_with fail
            exact hK.out _ _ (by rw [hA]; simp only [putF]; kernel_rfl) rfl
          · intro K L us W hK0 hL hd hR
            have hK := hid (fun v A' h1 h2 => hK0 v A' W h1 (hR.pure 1 (by decide) (by decide) h2)); clear hK0
            (try simp [Region.binds] at hd)
            clear hd hR
            simp only [putF]
            rw [hA]
            go_frame
            go_wp2_with fail
            exact hK.out _ _ (by rw [hA]; simp only [putF]; kernel_rfl) rfl
          · intro K L us W hK0 hL hd hR
            have hK := hid (fun v A' h1 h2 => hK0 v A' W h1 (hR.pure 2 (by decide) (by decide) h2)); clear hK0
            (try simp [Region.binds] at hd)
            clear hd hR
            simp only [putF]
            rw [hA]
            go_frame
            go_wp2_with fail
            exact hK.out _ _ (by rw [hA]; simp only [putF]; kernel_rfl) rfl
          · intro K L us W hK0 hL hd hR
            have hK := hid (fun v A' h1 h2 => hK0 v A' W h1 (hR.pure 3 (by decide) (by decide) h2)); clear hK0
            (try simp [Region.binds] at hd)
            clear hd hR
            simp only [putF]
            rw [hA]
            go_frame
            go_wp2_with fail
            exact hK.out _ _ (by rw [hA]; simp only [putF]; kernel_rfl) rfl
          · intro K L us W hK0 hL hd hR
            have hK := hid (fun v A' h1 h2 => hK0 v A' W h1 (hR.pure 4 (by decide) (by decide) h2)); clear hK0
            (try simp [Region.binds] at hd)
            clear hd hR
            simp only [putF]
            rw [hA]
            go_frame
            go_wp2_with fail
            exact hK.out _ _ (by rw [hA]; simp only [putF]; kernel_rfl) rfl
          · intro K L us W hK0 hL hd hR
            have hK := hid (fun v A' h1 h2 => hK0 v A' W h1 (hR.pure 5 (by decide) (by decide) h2)); clear hK0
            (try simp [Region.binds] at hd)
            clear hd hR
            simp only [putF]
            rw [hA]
            go_frame
            go_wp2_with fail
            exact hK.out _ _ (by rw [hA]; simp only [putF]; kernel_rfl) rfl
          · intro K L us W hK0 hL hd hR
            have hK := hid (fun v A' h1 h2 => hK0 v A' W h1 (hR.pure 6 (by decide) (by decide) h2)); clear hK0
            (try simp [Region.binds] at hd)
            have e4 : us 4 = .slice (some ⟨g, 0, none⟩) n mcap := hR.vals 4 (by simp [hd]) (by decide) (by decide)
            have e5 : us 5 = .int .i64 (y : Int) := hR.vals 5 (by simp [hd]) (by decide) (by decide)
            clear hd hR
            simp only [putF]
            rw [hA, e4, e5]
            go_frame
            go_wp2_with fail
            exact hK.out _ _ (by rw [hA]; simp only [putF]; rw [e4, e5]; kernel_rfl) rfl
          · intro K L us W hK0 hL hd hR
            have hK := hid (fun v A' h1 h2 => hK0 v A' W h1 (hR.pure 7 (by decide) (by decide) h2)); clear hK0
            (try simp [Region.binds] at hd)
            have e6 : us 6 = .pointer (some ⟨g, y * 9, none⟩) := hR.vals 6 (by simp [hd]) (by decide) (by decide)
            have hW := hR.at0 (k := 7) (by decide) hL
            clear hd hR
            subst hW
            have c0 : V.drew.cell? ⟨g, y * 9, none⟩ = some (.int .i64 q0) := YQ.out 0 (by decide)
            have c1 : V.drew.cell? ⟨g, y * 9 + 1, none⟩ = some (.int .i64 q1) := YQ.out 1 (by decide)
            have c2 : V.drew.cell? ⟨g, y * 9 + 2, none⟩ = some (.int .i64 q2) := YQ.out 2 (by decide)
            have c3 : V.drew.cell? ⟨g, y * 9 + 3, none⟩ = some (.int .i64 q3) := YQ.out 3 (by decide)
            have c4 : V.drew.cell? ⟨g, y * 9 + 4, none⟩ = some (.int .i64 q4) := YQ.out 4 (by decide)
            have c5 : V.drew.cell? ⟨g, y * 9 + 5, none⟩ = some (.int .i64 q5) := YQ.out 5 (by decide)
            have c6 : V.drew.cell? ⟨g, y * 9 + 6, none⟩ = some (.int .i64 q6) := YQ.out 6 (by decide)
            have c7 : V.drew.cell? ⟨g, y * 9 + 7, none⟩ = some (.int .i64 q7) := YQ.out 7 (by decide)
            have c8 : V.drew.cell? ⟨g, y * 9 + 8, none⟩ = some (.int .i64 q8) := YQ.out 8 (by decide)
            simp only [putF]
            rw [hA, e6]
            go_frame
            go_wp2_with fail
            exact hK.out _ _ (by rw [hA]; simp only [putF]; rw [e6]; kernel_rfl) rfl
          · intro K L us W hK0 hL hd hR
            have hK := hid (fun v A' h1 h2 => hK0 v A' W h1 (hR.pure 8 (by decide) (by decide) h2)); clear hK0
            (try simp [Region.binds] at hd)
            clear hd hR
            simp only [putF]
            rw [hA]
            go_frame
            go_wp2_with fail
            exact hK.out _ _ (by rw [hA]; simp only [putF]; kernel_rfl) rfl
          · intro K L us W hK0 hL hd hR
            have hK := hid (fun v A' h1 h2 => hK0 v A' W h1 (hR.pure 9 (by decide) (by decide) h2)); clear hK0
            (try simp [Region.binds] at hd)
            clear hd hR
            simp only [putF]
            rw [hA]
            go_frame
            go_wp2_with fail
            exact hK.out _ _ (by rw [hA]; simp only [putF]; kernel_rfl) rfl
          · intro K L us W hK0 hL hd hR
            have hK := hid (fun v A' h1 h2 => hK0 v A' W h1 (hR.pure 10 (by decide) (by decide) h2)); clear hK0
            (try simp [Region.binds] at hd)
            have e8 : us 8 = .slice (some ⟨g, 0, none⟩) n mcap := hR.vals 8 (by simp [hd]) (by decide) (by decide)
            have e9 : us 9 = .int .i64 (x : Int) := hR.vals 9 (by simp [hd]) (by decide) (by decide)
            clear hd hR
            simp only [putF]
            rw [hA, e8, e9]
            go_frame
            go_wp2_with fail
            exact hK.out _ _ (by rw [hA]; simp only [putF]; rw [e8, e9]; kernel_rfl) rfl
          · intro K L us W hK0 hL hd hR
            have hK := hid (fun v A' h1 h2 => hK0 v A' W h1 (hR.pure 11 (by decide) (by decide) h2)); clear hK0
            (try simp [Region.binds] at hd)
            have e10 : us 10 = .pointer (some ⟨g, x * 9, none⟩) := hR.vals 10 (by simp [hd]) (by decide) (by decide)
            have hW := hR.at0 (k := 11) (by decide) hL
            clear hd hR
            subst hW
            have c0 : V.drew.cell? ⟨g, x * 9, none⟩ = some (.int .i64 p0) := YP.out 0 (by decide)
            have c1 : V.drew.cell? ⟨g, x * 9 + 1, none⟩ = some (.int .i64 p1) := YP.out 1 (by decide)
            have c2 : V.drew.cell? ⟨g, x * 9 + 2, none⟩ = some (.int .i64 p2) := YP.out 2 (by decide)
            have c3 : V.drew.cell? ⟨g, x * 9 + 3, none⟩ = some (.int .i64 p3) := YP.out 3 (by decide)
            have c4 : V.drew.cell? ⟨g, x * 9 + 4, none⟩ = some (.int .i64 p4) := YP.out 4 (by decide)
            have c5 : V.drew.cell? ⟨g, x * 9 + 5, none⟩ = some (.int .i64 p5) := YP.out 5 (by decide)
            have c6 : V.drew.cell? ⟨g, x * 9 + 6, none⟩ = some (.int .i64 p6) := YP.out 6 (by decide)
            have c7 : V.drew.cell? ⟨g, x * 9 + 7, none⟩ = some (.int .i64 p7) := YP.out 7 (by decide)
            have c8 : V.drew.cell? ⟨g, x * 9 + 8, none⟩ = some (.int .i64 p8) := YP.out 8 (by decide)
            simp only [putF]
            rw [hA, e10]
            go_frame
            go_wp2_with fail
            exact hK.out _ _ (by rw [hA]; simp only [putF]; rw [e10]; kernel_rfl) rfl
          · intro K L us W hK0 hL hd hR
            have hK := hid (fun v A' h1 h2 => hK0 v A' W h1 (hR.pure 12 (by decide) (by decide) h2)); clear hK0
            (try simp [Region.binds] at hd)
            have e0 : us 0 = .slice (some ⟨g, 0, none⟩) n mcap := hR.vals 0 (by simp [hd]) (by decide) (by decide)
            have e1 : us 1 = .int .i64 (x : Int) := hR.vals 1 (by simp [hd]) (by decide) (by decide)
            clear hd hR
            simp only [putF]
            rw [hA, e0, e1]
            go_frame
            go_wp2_with fail
            exact hK.out _ _ (by rw [hA]; simp only [putF]; rw [e0, e1]; kernel_rfl) rfl
          · intro K L us W hK0 hL hd hR
            simp [Region.binds] at hd
            have e12 : us 12 = .pointer (some ⟨g, x * 9, none⟩) := hR.vals 12 (by simp [hd]) (by decide) (by decide)
            have e7 : us 7 = .agg #[.int .i64 q0, .int .i64 q1, .int .i64 q2, .int .i64 q3, .int .i64 q4, .int .i64 q5, .int .i64 q6, .int .i64 q7, .int .i64 q8] := hR.vals 7 (by simp [hd]) (by decide) (by decide)
            have hp : ∀ j ∈ [0, 1, 4, 5, 6, 7, 11, 12], L j = true := by
              intro j hj
              simp only [List.mem_cons, List.not_mem_nil, or_false] at hj
              rcases hj with rfl | rfl | rfl | rfl | rfl | rfl | rfl | rfl
              all_goals (simp [hd])
            have hW := (hR.fst (v := undef) hL hp (by decide)).1
            have hK := hid (fun A' h1 => hK0 undef A' _ h1 (hR.fst hL hp (by decide)).2); clear hK0 hp
            clear hd hR
            subst hW
            simp only [putF]
            rw [hA, e12, e7]
            go_frame
            go_wp2_with (refine pt_store rfl 36 (.tmp 74) (.tmp 69) rfl g (x * 9) _ rfl rfl (show V.drew.heap[g]? = _ from YC.out) size36s rfl (by show x * 9 + 9 ≤ C.size; omega) rfl ?_)
            exact hK.out _ (by rw [hA]; simp only [putF]; rw [e12, e7]; kernel_rfl)
          · intro K L us W hK0 hL hd hR
            have hK := hid (fun v A' h1 h2 => hK0 v A' W h1 (hR.pure 14 (by decide) (by decide) h2)); clear hK0
            (try simp [Region.binds] at hd)
            have e2 : us 2 = .slice (some ⟨g, 0, none⟩) n mcap := hR.vals 2 (by simp [hd]) (by decide) (by decide)
            have e3 : us 3 = .int .i64 (y : Int) := hR.vals 3 (by simp [hd]) (by decide) (by decide)
            clear hd hR
            simp only [putF]
            rw [hA, e2, e3]
            go_frame
            go_wp2_with fail
            exact hK.out _ _ (by rw [hA]; simp only [putF]; rw [e2, e3]; kernel_rfl) rfl
          · intro K L us W hK0 hL hd hR
            simp [Region.binds] at hd
            have e14 : us 14 = .pointer (some ⟨g, y * 9, none⟩) := hR.vals 14 (by simp [hd]) (by decide) (by decide)
            have e11 : us 11 = .agg #[.int .i64 p0, .int .i64 p1, .int .i64 p2, .int .i64 p3, .int .i64 p4, .int .i64 p5, .int .i64 p6, .int .i64 p7, .int .i64 p8] := hR.vals 11 (by simp [hd]) (by decide) (by decide)
            have h5 : L 13 = true := by simp [hd]
            have hW := (hR.snd (v := undef) h5 hL).1
            have hK := hid (fun A' h1 => hK0 undef A' _ h1 (hR.snd h5 hL).2); clear hK0
            clear hd hR
            subst hW
            simp only [putF]
            rw [hA, e14, e11]
            go_frame
            go_wp2_with (refine pt_store rfl 36 (.tmp 75) (.tmp 73) rfl g (y * 9) _ rfl rfl (setRow_heap _ _ _ _ _ _ (show V.drew.heap[g]? = _ from YC.out)) size36s rfl (by show y * 9 + 9 ≤ (ptL C (x * 9) _).size; rw [ptL_size]; omega) rfl ?_)
            exact hK.out _ (by rw [hA]; simp only [putF]; rw [e14, e11]; kernel_rfl)
        intro L us W1 hL hR
        have hW : W1 = (V.drew.setRow g (ptL C (x * 9) [.int .i64 q0, .int .i64 q1, .int .i64 q2, .int .i64 q3, .int .i64 q4, .int .i64 q5, .int .i64 q6, .int .i64 q7, .int .i64 q8])).setRow g (ptL (ptL C (x * 9) [.int .i64 q0, .int .i64 q1, .int .i64 q2, .int .i64 q3, .int .i64 q4, .int .i64 q5, .int .i64 q6, .int .i64 q7, .int .i64 q8]) (y * 9) [.int .i64 p0, .int .i64 p1, .int .i64 p2, .int .i64 p3, .int .i64 p4, .int .i64 p5, .int .i64 p6, .int .i64 p7, .int .i64 p8]) := by have := hR.wld; rw [hL 15 (by decide)] at this; exact this
        clear hR hL
        simp only [putF]
        rw [hA]
        clear hA
        go_frame
        subst hW
        have HO5 := hid (own_swap (OwnR.heap HOV.out (fun _ _ h _ => h) : OwnP V.drew w.heap.size (.slice (some ⟨g, 0, none⟩) n mcap) Lp) YC.out HPX.out HQY.out)
        have HB5 := hid (fun X Y => below_row (X := Y) (below_row (X := X) (show Below w.heap.size w V.drew from ⟨HBV.out.os, HBV.out.tape, HBV.out.output, HBV.out.size, HBV.out.block⟩) hgb) hgb)
        simp only [Pt.row] at HO5
        have HP5 := hid ((swL_some HPX.out HQY.out ▸ swL_perm Lp x y).trans HPM.out)
        go_wp2_with fail
        exact ⟨⟨k + 1, _, by omega, by go_num, HP5.out, HO5.out, HB5.out _ _⟩, by simp [intOf]; omega⟩
    · obtain rfl : k = m := by omega
      have d5 : decide ((k : Int) < (k : Int)) = false := by simp
      clear hpm hoL hB HPD HOD
      obtain ⟨c', rfl⟩ : ∃ c' : Nat, c = (c' : Int) := ⟨c.toNat, by omega⟩
      have HC := hid (show 1 ≤ c' ∧ c' ≤ 64 by omega)
      have HPW := hid (HP.out.below HBW.out)
      go_wp2_with fail
      refine (layout_good _ S c' wr HPW.out HG.out HC.out).mono ?_
      rintro r w5 ⟨⟨va, E, rfl, hta, hla, hpa, hna⟩, hb5⟩
      have HTA := hid hta
      have HLA := hid hla
      have HPA := hid hpa
      have HNA := hid hna
      have HB5 := hid (HBW.out.trans (hb5.mono hzw))
      have HOL5 := hid (OwnR.grow' HOL.out hb5)
      clear hta hla hpa hna hb5
      go_wp2_with fail
      refine (layout_good _ Lp c' w5 (OwnP.ptsV HOL5.out) (goodL_perm HPM.out.symm HG.out) HC.out).mono ?_
      rintro r w6 ⟨⟨vb, F, rfl, htb, hlb, hpb, hnb⟩, hb6⟩
      have HTB := hid htb
      have HEQ := hid ((HLA.out.unique (hlb.perm HPM.out)))
      have HB6 := hid (HB5.out.trans (hb6.mono HB5.out.size))
      have HTA6 := hid (TilesV.still HTA.out hb6)
      clear htb hlb hpb hnb hb6
      go_wp2_with fail
      refine (same_tiles va vb E F w6 HTA6.out HTB.out HEQ.out (by have := HNA.out; omega) (fun e he => by have := HPA.out e he; omega)).mono ?_
      rintro r w7 ⟨rfl, hb7⟩
      have HB7 := hid (HB6.out.trans (hb7.mono HB6.out.size))
      clear hb7
      go_wp2_with fail
      refine (awake_any _).mono ?_
      rintro r w9 ⟨rfl, hb⟩
      have HB9 := hid (show Below w.heap.size w w9 from HB7.out.trans (hb.mono HB7.out.size))
      clear hb
      go_wp2_with fail
      go_ret
      exact ⟨rfl, HB9.out⟩
set_option maxRecDepth 100000 in
theorem tileOrder_lifted (os : Os) (started : os.Started) (H : Type) (enc : TypeId × Value → H) :
    ReturnsInHanded {} Try.checked os 4 .any (Rows.tileOrderSpec.pre6 enc Try.prog Try.f4 Rows.tileOrderRow.domain false) (Rows.tileOrderSpec.post enc Try.prog Try.f4 false true false false) := by
  refine law_lifted (C := Try.checked) (tb := 4) lawOwn started (by kernel_rfl) Try.func4 rfl ?_ (show Try.f4.resultTypes = #[4] by kernel_rfl) Try.underlying4 lawLaid ?_
    (ChangeSpec.witness6 (enc := enc) (C := Try.checked) false ⟨#[], #[.slice none 0 0, .slice none 0 0, .int .i64 0], []⟩ 8 (by kernel_rfl) (by kernel_rfl) (by kernel_rfl) (by kernel_rfl)) ?_
  · intro ds hds
    match ds, hds with
    | [d1, d2, d3], _ => exact ⟨rfl, rfl, rfl⟩
  · rw [Try.params4]
    intro t ht
    simp at ht
    rcases ht with rfl | rfl | rfl
    all_goals exact ⟨by kernel_rfl, of_decide_eq_true (by kernel_rfl)⟩
  · intro W base args ds p hval hA hlt _
    change DataW.TrodAll enc Try.prog W 0 (fun _ => true) true Try.f4.params.toList args.toList ds p at hA
    change ∀ (j : Nat) t v, Try.f4.params[j]? = some t → args[j]? = some v → Value.okWide Try.prog W .any base t v at hval
    rw [Try.params4] at hA hval
    obtain ⟨v0, vs0, d0, ds0, p0, q0, hargs, rfl, rfl, h0, r0⟩ := trodAll_cons hA
    obtain ⟨v1, vs1, d1, ds1, p1, q1, rfl, rfl, rfl, h1, r1⟩ := trodAll_cons r0
    obtain ⟨v2, vs2, d2, ds2, p2, q2, rfl, rfl, rfl, h2, r2⟩ := trodAll_cons r1
    obtain ⟨rfl, rfl, rfl⟩ := trodAll_nil r2
    obtain rfl : args = #[v0, v1, v2] := by cases args; simp_all
    obtain ⟨S, hS, hS0, hSn⟩ := open_pts (hval 0 22 v0 rfl rfl) h0
    obtain ⟨zs, hz, hz0, hzn, _⟩ := open_ints (hval 1 30 v1 rfl rfl) h1
    obtain ⟨n, rfl, _, _⟩ := open_int Try.underlying3 (hval 2 3 v2 rfl rfl) h2
    exact order_law v0 v1 S zs n W hS hS0 hz hSn hzn
/-- TileOrder, whatever the input. -/
theorem tileOrder_holds : Rows.TileOrderSaid :=
  OpenClaim.holds_of_wide 4 Try.f4 rfl rfl rfl rfl rfl rfl rfl ⟨rfl, rfl, rfl, rfl, rfl⟩ rfl rfl rfl rfl rfl (by kernel_rfl) Try.func4 (by kernel_rfl)
    (of_decide_eq_true (by kernel_rfl)) (by unfold Func.isWrapper; rw [if_neg (of_decide_eq_false (by kernel_rfl))]; exact ⟨rfl, rfl⟩)
    (fun os started H enc _ => tileOrder_lifted os started H enc)
#print axioms tileOrder_holds
end Go.Proofs.Yteanlcefdoigcaa
