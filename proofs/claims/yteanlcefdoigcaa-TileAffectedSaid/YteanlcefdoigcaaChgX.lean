/- The keys of differing tiles (program): two lists in the order of their keys are merged. -/
import Derived.Test.YteanlcefdoigcaaEqX
import Derived.Test.YteanlcefdoigcaaTlsX
import Derived.Test.YteanlcefdoigcaaAffM
namespace Go.Proofs.Yteanlcefdoigcaa
open Go.ChangeShapes Go.WideShapes Go.RowKit Go.Maps Go.Sort

/-- a slice's length is at most its capacity -/
def CapV (v : Value) : Prop := ∀ a n c, v = .slice a n c → n ≤ c
theorem CapV.slice {a : Option Addr} {n c : Nat} (h : n ≤ c) : CapV (.slice a n c) := fun a' n' c' e => by
  injection e with _ e1 e2
  omega
theorem OwnR.capV {W : World} {base t sz : Nat} {v : Value} {l : List (List Value)} (h : OwnR W base t sz v l) : CapV v := by
  rcases h.2.2 with ⟨h1, h0⟩ | ⟨g, cap, cur, h1, _, _, h3, _⟩
  · rw [h1]; exact CapV.slice (Nat.zero_le _)
  · rw [h1]; exact CapV.slice h3
def lenV : Value → Nat
  | .slice _ n _ => n
  | _ => 0
theorem cmpK_gt (a b : Ky) : 0 < cmpK a b ↔ b.lt a := by
  unfold cmpK Ky.lt
  by_cases h1 : a.L = b.L
  · rw [if_pos h1]
    by_cases h2 : a.x = b.x
    · rw [if_pos h2]
      by_cases h3 : a.y = b.y
      · rw [if_pos h3]
        by_cases h4 : a.z = b.z
        · rw [if_pos h4]; omega
        · rw [if_neg h4]; omega
      · rw [if_neg h3]; omega
    · rw [if_neg h2]; omega
  · rw [if_neg h1]; omega
theorem cmpK_eq {a b : Ky} (h : cmpK a b = 0) : a = b := by
  rcases Decidable.em (a = b) with e | e
  · exact e
  · rcases Ky.lt_total e with g | g
    · have := (cmpK_lt a b).2 g; omega
    · have := (cmpK_gt a b).2 g; omega
/-- the tiles from the i-th on, as a slice in the memory of the beginning -/
structure RestV (w : World) (v : Value) (A : List Te) (i : Nat) : Prop where
  til : TilesV w v (A.drop i)
  cap : CapV v
theorem RestV.form {w : World} {v : Value} {A : List Te} {i : Nat} (h : RestV w v A i) : ∃ a c, v = .slice a (A.length - i) c := by
  obtain ⟨⟨a, c, h1, _⟩, _⟩ := h.til
  rw [List.length_drop] at h1
  exact ⟨a, c, h1⟩
/-- the first tile of the rest -/
theorem RestV.head {w : World} {a : Option Addr} {n c i : Nat} {A : List Te} (h : RestV w (.slice a n c) A i) (hn : 0 < n) :
    ∃ (b off : Nat) (e : Te), a = some ⟨b, off, none⟩ ∧ b < w.heap.size ∧ A[i]? = some e ∧ n = A.length - i ∧ n ≤ c ∧ (∀ j, j < 5 → w.cell? ⟨b, off + j, none⟩ = e.row[j]?) ∧ PtsV w e.v e.pts ∧
      (c = 1 → RestV w (.slice (some ⟨b, off, none⟩) (n - 1) 0) A (i + 1)) ∧ (c ≠ 1 → RestV w (.slice (some ⟨b, off + 5, none⟩) (n - 1) (c - 1)) A (i + 1)) := by
  obtain ⟨⟨⟨a', c', h1, h2⟩, h3⟩, h4⟩ := h
  injection h1 with h5 h6 h7
  subst h5 h7
  have hl : n = A.length - i := by rw [h6, List.length_drop]
  have hi : i < A.length := by omega
  have hc := h4 _ _ _ rfl
  obtain ⟨x, hA⟩ : ∃ x, A[i]? = some x := ⟨_, List.getElem?_eq_getElem hi⟩
  have hd : A.drop i = x :: A.drop (i + 1) := drop_at hA
  rw [hd] at h2 h3
  obtain ⟨b, off, h8, h9, h10⟩ := h2.resolve_left (by simp)
  have hlen : (A.drop (i + 1)).length = n - 1 := by rw [List.length_drop]; omega
  refine ⟨b, off, x, h8, h9, hA, hl, hc, fun j hj => ?_, h3 _ List.mem_cons_self, fun h1 => ?_, fun h1 => ?_⟩
  · have := h10 0 x.row rfl j hj
    rwa [Nat.zero_mul, Nat.add_zero] at this
  · have hn1 : n = 1 := by omega
    have he : A.drop (i + 1) = [] := List.eq_nil_of_length_eq_zero (by omega)
    exact ⟨⟨⟨_, _, by rw [hlen], Or.inl he⟩, fun e he' => by rw [he] at he'; simp at he'⟩, CapV.slice (by omega)⟩
  · refine ⟨⟨⟨_, _, by rw [hlen], Or.inr ⟨b, off + 5, rfl, h9, fun k r hk j hj => ?_⟩⟩, fun e he => h3 e (List.mem_cons_of_mem _ he)⟩, CapV.slice (by omega)⟩
    have := h10 (k + 1) r (by rw [List.map_cons, List.getElem?_cons_succ]; exact hk) j hj
    rwa [show off + (k + 1) * 5 + j = off + 5 + k * 5 + j by omega] at this
/-- between two rounds -/
def MrgRel (w : World) (A B : List Te) (av bv ov : Value) (W : World) : Prop :=
  ∃ (i j : Nat) (K : List Ky) (o : Value), o = ov ∧ i ≤ A.length ∧ j ≤ B.length ∧ RestV w av A i ∧ RestV w bv B j ∧ ChgAt (A.map Te.tl) (B.map Te.tl) i j K ∧ K.length ≤ i + j ∧ OwnK W w.heap.size ov K ∧ Below w.heap.size w W
theorem tl_at {A : List Te} {i : Nat} {e : Te} (h : A[i]? = some e) : (A.map Te.tl)[i]? = some e.tl := by rw [List.getElem?_map, h]; rfl
set_option maxRecDepth 100000 in
set_option maxHeartbeats 6400000 in
theorem changed_any (va vb : Value) (A B : List Te) (w : World) (ha : TilesV w va A) (hb : TilesV w vb B) (hca : CapV va) (hcb : CapV vb) (hA : (A.map Te.tl).Pairwise (fun a b => a.key.lt b.key)) (hB : (B.map Te.tl).Pairwise (fun a b => a.key.lt b.key))
    (hsa : ∀ t ∈ A.map Te.tl, t.key.small) (hsb : ∀ t ∈ B.map Te.tl, t.key.small) (hla : A.length ≤ 1000000) (hlb : B.length ≤ 1000000) (hpa : ∀ e ∈ A, e.pts.length ≤ maxLen) :
    Calls Try.prog 63 #[va, vb] w fun r w' => (∃ v K, r = .returned v ∧ OwnK w' w.heap.size v K ∧ IsChg (A.map Te.tl) (B.map Te.tl) K) ∧ Below w.heap.size w w' := by
  have HRA0 := hid (show RestV w va A 0 from ⟨by rw [List.drop_zero]; exact ha, hca⟩)
  have HRB0 := hid (show RestV w vb B 0 from ⟨by rw [List.drop_zero]; exact hb, hcb⟩)
  have hA := hid hA
  have hB := hid hB
  have hsa := hid hsa
  have hsb := hid hsb
  have HPLA := hid hpa
  clear ha hb hca hcb hpa
  obtain ⟨i0, hi, hz0, hz1, hz2⟩ := info_parts info39
  have HI := hid hi
  have HZ0 := hid hz0
  have HZ1 := hid hz1
  have HZ2 := hid hz2
  clear hi hz0 hz1 hz2
  go_enter Try.func63, Try.ntmps63
  go_wp2_with fail
  go_loopw [0, 1, 5] (fun av bv ov W => MrgRel w A B av bv ov W) (fun av bv _ _ => lenV av + lenV bv)
  case atStart => exact ⟨0, 0, [], _, rfl, by omega, by omega, HRA0.out, HRB0.out, ChgAt.start _ _, by simp, OwnK.nil _ _, Below.refl _ _⟩
  case round =>
    obtain ⟨i, j, K, ov, rfl, hi, hj, hra, hrb, hch, hkl, hov, hB0⟩ := hrel
    obtain ⟨aa, ca, rfl⟩ := hra.form
    obtain ⟨ab, cb, rfl⟩ := hrb.form
    obtain ⟨la, hlae⟩ : ∃ la, la = A.length - i := ⟨_, rfl⟩
    obtain ⟨lb, hlbe⟩ : ∃ lb, lb = B.length - j := ⟨_, rfl⟩
    rw [← hlae] at hra ⊢
    rw [← hlbe] at hrb ⊢
    have HLAE := hid hlae
    have HLBE := hid hlbe
    have HRA := hid hra
    have HRB := hid hrb
    have HCH := hid hch
    have HKL := hid (show K.length ≤ 2000000 by omega)
    have HKLE := hid hkl
    have HOV := hid hov
    have HBW := hid hB0
    have HBV := hid hB0
    have hzw := hB0.size
    clear hlae hlbe hra hrb hch hkl hov hB0
    by_cases hla0 : 0 < la
    · have dla : decide ((0 : Int) < (la : Int)) = true := decide_eq_true (by omega)
      have ela : ((la : Int) == 0) = false := by simp; omega
      by_cases hlb0 : 0 < lb
      · have dlb : decide ((0 : Int) < (lb : Int)) = true := decide_eq_true (by omega)
        have elb : ((lb : Int) == 0) = false := by simp; omega
        have HRAA := HRA
        have HRBB := HRB
        obtain ⟨ba, oa, ea, rfl, hba, hea, hna, hca, hcsa, hpa, hta1, hta2⟩ := RestV.head HRA.out hla0
        have HEA := hid hea
        have HBA := hid hba
        have HPA := hid hpa
        have HTA1 := hid hta1
        have HTA2 := hid hta2
        have hwa : ∀ y, y < 5 → wr.cell? ⟨ba, oa + y, none⟩ = ea.row[y]? := fun y hy => by rw [HBW.out.cell hba]; exact hcsa y hy
        have HLA := hid (HPLA.out ea (List.mem_of_getElem? hea))
        have HSA := hid (hsa.out ea.tl (List.mem_of_getElem? (tl_at hea)))
        have HTLA := hid (tl_at hea)
        have hil : i < A.length := (List.getElem?_eq_some_iff.1 hea).1
        clear hea hba hpa hta1 hta2 hcsa HRA hna hca
        obtain ⟨⟨a0, a1, a2, a3⟩, av, pa⟩ := ea
        obtain ⟨paa, pac, hav, _⟩ := HPA.out
        obtain rfl : av = .slice paa pa.length pac := hav
        obtain ⟨pan, hpan⟩ : ∃ pan, pan = pa.length := ⟨_, rfl⟩
        simp only [Te.row, Ky.row, ← hpan] at hwa HPA
        clear hpan
        obtain ⟨bb, ob, eb, rfl, hbb, heb, hnb, hcb, hcsb, hpb, htb1, htb2⟩ := RestV.head HRB.out hlb0
        have HEB := hid heb
        have HBB := hid hbb
        have HPB := hid hpb
        have HTB1 := hid htb1
        have HTB2 := hid htb2
        have hwb : ∀ y, y < 5 → wr.cell? ⟨bb, ob + y, none⟩ = eb.row[y]? := fun y hy => by rw [HBW.out.cell hbb]; exact hcsb y hy
        have HSB := hid (hsb.out eb.tl (List.mem_of_getElem? (tl_at heb)))
        have HTLB := hid (tl_at heb)
        have hjl : j < B.length := (List.getElem?_eq_some_iff.1 heb).1
        clear heb hbb hpb htb1 htb2 hcsb HRB hnb hcb
        obtain ⟨⟨b0, b1, b2, b3⟩, bv, pb⟩ := eb
        obtain ⟨pba, pbc, hbv, _⟩ := HPB.out
        obtain rfl : bv = .slice pba pb.length pbc := hbv
        obtain ⟨pbn, hpbn⟩ : ∃ pbn, pbn = pb.length := ⟨_, rfl⟩
        simp only [Te.row, Ky.row, ← hpbn] at hwb HPB
        clear hpbn
        obtain ⟨cw, hcw⟩ : ∃ cw, cw = cmpW ⟨a0, a1, a2, a3⟩ ⟨b0, b1, b2, b3⟩ := ⟨_, rfl⟩
        have HOC := hid (show ∀ W, Calls Try.prog 98 #[.agg #[.int .i64 a0, .int .i64 a1, .int .i64 a2, .int .i64 a3], .agg #[.int .i64 b0, .int .i64 b1, .int .i64 b2, .int .i64 b3]] W fun r w' => r = .returned (.int .i64 cw) ∧ Below W.heap.size W w' from fun W => by
          rw [hcw]
          exact (order_raw ⟨a0, a1, a2, a3⟩ ⟨b0, b1, b2, b3⟩ W).mono (fun r w' h => ⟨h.1, grew_below h.2⟩))
        have HCW := hid (show cw = cmpK ⟨a0, a1, a2, a3⟩ ⟨b0, b1, b2, b3⟩ from hcw.trans (cmpW_small HSA.out HSB.out))
        clear hcw
        have P0 := fun d os => cell_regrown (show wr.cell? ⟨ba, oa, none⟩ = some (.int .i64 a0) from hwa 0 (by decide)) d os
        have P1 := fun d os => cell_regrown (show wr.cell? ⟨ba, oa + 1, none⟩ = some (.int .i64 a1) from hwa 1 (by decide)) d os
        have P2 := fun d os => cell_regrown (show wr.cell? ⟨ba, oa + 2, none⟩ = some (.int .i64 a2) from hwa 2 (by decide)) d os
        have P3 := fun d os => cell_regrown (show wr.cell? ⟨ba, oa + 3, none⟩ = some (.int .i64 a3) from hwa 3 (by decide)) d os
        have Q0 := fun d os => cell_regrown (show wr.cell? ⟨bb, ob, none⟩ = some (.int .i64 b0) from hwb 0 (by decide)) d os
        have Q1 := fun d os => cell_regrown (show wr.cell? ⟨bb, ob + 1, none⟩ = some (.int .i64 b1) from hwb 1 (by decide)) d os
        have Q2 := fun d os => cell_regrown (show wr.cell? ⟨bb, ob + 2, none⟩ = some (.int .i64 b2) from hwb 2 (by decide)) d os
        have Q3 := fun d os => cell_regrown (show wr.cell? ⟨bb, ob + 3, none⟩ = some (.int .i64 b3) from hwb 3 (by decide)) d os
        have HWA := hid hwa
        have HWB := hid hwb
        clear hwa hwb
        have HOV0 := HOV
        clear HBV HOV
        go_wp2_with fail
        refine wp_region_quiet_below (by kernel_rfl) (by kernel_rfl) ?_
        repeat (first | go_big_quiet_step ((go_at_call 98; with_reducible exact Calls.regrown_of (HOC.out _))) | quiet_step ((go_at_call 98; with_reducible exact Calls.regrown_of (HOC.out _))))
        refine wpQuiet_nil ?_
        intro _ hw'
        obtain ⟨⟨dqV, osV⟩, hw2⟩ := hw'
        subst hw2
        have HQV := hid (below_regrown wr dqV osV)
        generalize Sort.grow (redrawn wr dqV) osV = V at HQV ⊢
        have hsV := HQV.out.size
        clear P0 P1 P2 P3 Q0 Q1 Q2 Q3 HOC
        have HBV := hid (HBW.out.trans (HQV.out.mono hzw))
        have HOV := hid (show OwnK V w.heap.size ov K from OwnR.grow' HOV0.out HQV.out)
        clear HOV0
        have hwa := HWA.out
        have hwb := HWB.out
        by_cases hlt : cw < 0
        · have dl : decide (cw < 0) = true := decide_eq_true hlt
          have HLT := hid (show (⟨a0, a1, a2, a3⟩ : Ky).lt ⟨b0, b1, b2, b3⟩ from (cmpK_lt _ _).1 (by rw [← HCW.out]; exact hlt))
          have HNX := hid (HCH.out.next_left hA.out hB.out HTLA.out (fun u hu => by obtain rfl := Option.some.inj (HTLB.out.symm.trans hu); exact HLT.out))
          have A0 : V.cell? ⟨ba, oa, none⟩ = some (.int .i64 a0) := by rw [HBV.out.cell HBA.out, ← HBW.out.cell HBA.out]; exact hwa 0 (by decide)
          have A1 : V.cell? ⟨ba, oa + 1, none⟩ = some (.int .i64 a1) := by rw [HBV.out.cell HBA.out, ← HBW.out.cell HBA.out]; exact hwa 1 (by decide)
          have A2 : V.cell? ⟨ba, oa + 2, none⟩ = some (.int .i64 a2) := by rw [HBV.out.cell HBA.out, ← HBW.out.cell HBA.out]; exact hwa 2 (by decide)
          have A3 : V.cell? ⟨ba, oa + 3, none⟩ = some (.int .i64 a3) := by rw [HBV.out.cell HBA.out, ← HBW.out.cell HBA.out]; exact hwa 3 (by decide)
          by_cases hc1 : ca = 1
          · have HTT := hid (HTA1.out hc1)
            subst hc1
            have HRK := hid (RowsAt.one (heap_alloc_at V _ _ rfl) : RowsAt (V.alloc (.cells #[.int .i64 a0, .int .i64 a1, .int .i64 a2, .int .i64 a3] 39)) V.heap.size 0 4 [[.int .i64 a0, .int .i64 a1, .int .i64 a2, .int .i64 a3]])
            have HOA := hid (OwnR.grow' HOV.out ((Below.refl _ _).alloc (Nat.le_refl _) _) : OwnR (V.alloc (.cells #[.int .i64 a0, .int .i64 a1, .int .i64 a2, .int .i64 a3] 39)) w.heap.size 39 4 ov (K.map Ky.row))
            have HBA2 := hid (HBV.out.alloc HBV.out.size _ : Below w.heap.size w (V.alloc (.cells #[.int .i64 a0, .int .i64 a1, .int .i64 a2, .int .i64 a3] 39)))
            have HL1 := hid (show (K.map Ky.row).length + 1 ≤ maxLen by rw [List.length_map]; have := HKL.out; unfold maxLen; omega)
            have HL2 := hid (show ((K.map Ky.row).length + 1) * 32 ≤ 140737488355328 by rw [List.length_map]; have := HKL.out; omega)
            go_wp2_with (first
              | (at_builtin
                 refine wpList_append_rows rfl (.tmp 56) (.tmp 61) 56 rfl w.heap.size 39 i0 _ 4 32 Try.underlying56 HI.out HZ0.out HZ1.out HZ2.out rfl (by decide) _ (K.map Ky.row) [[.int .i64 a0, .int .i64 a1, .int .i64 a2, .int .i64 a3]] rfl HOA.out V.heap.size 0 1 1 rfl rfl HRK.out (wide4 _ _ _ _) HL1.out HL2.out HBA2.out.size ?_
                 intro v6 W6 hown6 hg6 z6
                 clear z6
                 have HO6 := hid (show OwnK W6 w.heap.size v6 (K ++ [⟨a0, a1, a2, a3⟩]) by unfold OwnK; rw [List.map_append]; exact hown6)
                 have HB6 := hid (show Below w.heap.size w W6 from HBA2.out.grown hg6 HBA2.out.size (fun k hk => OwnR.ownBlock HOA.out k hk))
                 clear hown6 hg6))
            exact ⟨⟨i + 1, j, _, _, rfl, by omega, by omega, HTT.out, HRBB.out, HNX.out, by rw [List.length_append]; have := HKLE.out; show K.length + 1 ≤ _; omega, HO6.out, HB6.out⟩, by simp only [lenV]; omega⟩
          · have HTT := hid (HTA2.out hc1)
            have HRK := hid (RowsAt.one (heap_alloc_at V _ _ rfl) : RowsAt (V.alloc (.cells #[.int .i64 a0, .int .i64 a1, .int .i64 a2, .int .i64 a3] 39)) V.heap.size 0 4 [[.int .i64 a0, .int .i64 a1, .int .i64 a2, .int .i64 a3]])
            have HOA := hid (OwnR.grow' HOV.out ((Below.refl _ _).alloc (Nat.le_refl _) _) : OwnR (V.alloc (.cells #[.int .i64 a0, .int .i64 a1, .int .i64 a2, .int .i64 a3] 39)) w.heap.size 39 4 ov (K.map Ky.row))
            have HBA2 := hid (HBV.out.alloc HBV.out.size _ : Below w.heap.size w (V.alloc (.cells #[.int .i64 a0, .int .i64 a1, .int .i64 a2, .int .i64 a3] 39)))
            have HL1 := hid (show (K.map Ky.row).length + 1 ≤ maxLen by rw [List.length_map]; have := HKL.out; unfold maxLen; omega)
            have HL2 := hid (show ((K.map Ky.row).length + 1) * 32 ≤ 140737488355328 by rw [List.length_map]; have := HKL.out; omega)
            go_wp2_with (first
              | (at_builtin
                 refine wpList_append_rows rfl (.tmp 56) (.tmp 61) 56 rfl w.heap.size 39 i0 _ 4 32 Try.underlying56 HI.out HZ0.out HZ1.out HZ2.out rfl (by decide) _ (K.map Ky.row) [[.int .i64 a0, .int .i64 a1, .int .i64 a2, .int .i64 a3]] rfl HOA.out V.heap.size 0 1 1 rfl rfl HRK.out (wide4 _ _ _ _) HL1.out HL2.out HBA2.out.size ?_
                 intro v6 W6 hown6 hg6 z6
                 clear z6
                 have HO6 := hid (show OwnK W6 w.heap.size v6 (K ++ [⟨a0, a1, a2, a3⟩]) by unfold OwnK; rw [List.map_append]; exact hown6)
                 have HB6 := hid (show Below w.heap.size w W6 from HBA2.out.grown hg6 HBA2.out.size (fun k hk => OwnR.ownBlock HOA.out k hk))
                 clear hown6 hg6))
            exact ⟨⟨i + 1, j, _, _, rfl, by omega, by omega, HTT.out, HRBB.out, HNX.out, by rw [List.length_append]; have := HKLE.out; show K.length + 1 ≤ _; omega, HO6.out, HB6.out⟩, by simp only [lenV]; omega⟩
        · have dl : decide (cw < 0) = false := decide_eq_false hlt
          by_cases hgt : 0 < cw
          · have dg : decide (0 < cw) = true := decide_eq_true hgt
            have HLT := hid (show (⟨b0, b1, b2, b3⟩ : Ky).lt ⟨a0, a1, a2, a3⟩ from (cmpK_gt _ _).1 (by rw [← HCW.out]; exact hgt))
            have HNX := hid (HCH.out.next_right hA.out hB.out HTLB.out (fun u hu => by obtain rfl := Option.some.inj (HTLA.out.symm.trans hu); exact HLT.out))
            have B0 : V.cell? ⟨bb, ob, none⟩ = some (.int .i64 b0) := by rw [HBV.out.cell HBB.out, ← HBW.out.cell HBB.out]; exact hwb 0 (by decide)
            have B1 : V.cell? ⟨bb, ob + 1, none⟩ = some (.int .i64 b1) := by rw [HBV.out.cell HBB.out, ← HBW.out.cell HBB.out]; exact hwb 1 (by decide)
            have B2 : V.cell? ⟨bb, ob + 2, none⟩ = some (.int .i64 b2) := by rw [HBV.out.cell HBB.out, ← HBW.out.cell HBB.out]; exact hwb 2 (by decide)
            have B3 : V.cell? ⟨bb, ob + 3, none⟩ = some (.int .i64 b3) := by rw [HBV.out.cell HBB.out, ← HBW.out.cell HBB.out]; exact hwb 3 (by decide)
            by_cases hc1 : cb = 1
            · have HTT := hid (HTB1.out hc1)
              subst hc1
              have HRK := hid (RowsAt.one (heap_alloc_at V _ _ rfl) : RowsAt (V.alloc (.cells #[.int .i64 b0, .int .i64 b1, .int .i64 b2, .int .i64 b3] 39)) V.heap.size 0 4 [[.int .i64 b0, .int .i64 b1, .int .i64 b2, .int .i64 b3]])
              have HOA := hid (OwnR.grow' HOV.out ((Below.refl _ _).alloc (Nat.le_refl _) _) : OwnR (V.alloc (.cells #[.int .i64 b0, .int .i64 b1, .int .i64 b2, .int .i64 b3] 39)) w.heap.size 39 4 ov (K.map Ky.row))
              have HBA2 := hid (HBV.out.alloc HBV.out.size _ : Below w.heap.size w (V.alloc (.cells #[.int .i64 b0, .int .i64 b1, .int .i64 b2, .int .i64 b3] 39)))
              have HL1 := hid (show (K.map Ky.row).length + 1 ≤ maxLen by rw [List.length_map]; have := HKL.out; unfold maxLen; omega)
              have HL2 := hid (show ((K.map Ky.row).length + 1) * 32 ≤ 140737488355328 by rw [List.length_map]; have := HKL.out; omega)
              go_wp2_with (first
                | (at_builtin
                   refine wpList_append_rows rfl (.tmp 68) (.tmp 73) 56 rfl w.heap.size 39 i0 _ 4 32 Try.underlying56 HI.out HZ0.out HZ1.out HZ2.out rfl (by decide) _ (K.map Ky.row) [[.int .i64 b0, .int .i64 b1, .int .i64 b2, .int .i64 b3]] rfl HOA.out V.heap.size 0 1 1 rfl rfl HRK.out (wide4 _ _ _ _) HL1.out HL2.out HBA2.out.size ?_
                   intro v6 W6 hown6 hg6 z6
                   clear z6
                   have HO6 := hid (show OwnK W6 w.heap.size v6 (K ++ [⟨b0, b1, b2, b3⟩]) by unfold OwnK; rw [List.map_append]; exact hown6)
                   have HB6 := hid (show Below w.heap.size w W6 from HBA2.out.grown hg6 HBA2.out.size (fun k hk => OwnR.ownBlock HOA.out k hk))
                   clear hown6 hg6))
              exact ⟨⟨i, j + 1, _, _, rfl, by omega, by omega, HRAA.out, HTT.out, HNX.out, by rw [List.length_append]; have := HKLE.out; show K.length + 1 ≤ _; omega, HO6.out, HB6.out⟩, by simp only [lenV]; omega⟩
            · have HTT := hid (HTB2.out hc1)
              have HRK := hid (RowsAt.one (heap_alloc_at V _ _ rfl) : RowsAt (V.alloc (.cells #[.int .i64 b0, .int .i64 b1, .int .i64 b2, .int .i64 b3] 39)) V.heap.size 0 4 [[.int .i64 b0, .int .i64 b1, .int .i64 b2, .int .i64 b3]])
              have HOA := hid (OwnR.grow' HOV.out ((Below.refl _ _).alloc (Nat.le_refl _) _) : OwnR (V.alloc (.cells #[.int .i64 b0, .int .i64 b1, .int .i64 b2, .int .i64 b3] 39)) w.heap.size 39 4 ov (K.map Ky.row))
              have HBA2 := hid (HBV.out.alloc HBV.out.size _ : Below w.heap.size w (V.alloc (.cells #[.int .i64 b0, .int .i64 b1, .int .i64 b2, .int .i64 b3] 39)))
              have HL1 := hid (show (K.map Ky.row).length + 1 ≤ maxLen by rw [List.length_map]; have := HKL.out; unfold maxLen; omega)
              have HL2 := hid (show ((K.map Ky.row).length + 1) * 32 ≤ 140737488355328 by rw [List.length_map]; have := HKL.out; omega)
              go_wp2_with (first
                | (at_builtin
                   refine wpList_append_rows rfl (.tmp 68) (.tmp 73) 56 rfl w.heap.size 39 i0 _ 4 32 Try.underlying56 HI.out HZ0.out HZ1.out HZ2.out rfl (by decide) _ (K.map Ky.row) [[.int .i64 b0, .int .i64 b1, .int .i64 b2, .int .i64 b3]] rfl HOA.out V.heap.size 0 1 1 rfl rfl HRK.out (wide4 _ _ _ _) HL1.out HL2.out HBA2.out.size ?_
                   intro v6 W6 hown6 hg6 z6
                   clear z6
                   have HO6 := hid (show OwnK W6 w.heap.size v6 (K ++ [⟨b0, b1, b2, b3⟩]) by unfold OwnK; rw [List.map_append]; exact hown6)
                   have HB6 := hid (show Below w.heap.size w W6 from HBA2.out.grown hg6 HBA2.out.size (fun k hk => OwnR.ownBlock HOA.out k hk))
                   clear hown6 hg6))
              exact ⟨⟨i, j + 1, _, _, rfl, by omega, by omega, HRAA.out, HTT.out, HNX.out, by rw [List.length_append]; have := HKLE.out; show K.length + 1 ≤ _; omega, HO6.out, HB6.out⟩, by simp only [lenV]; omega⟩
          · have dg : decide (0 < cw) = false := decide_eq_false hgt
            have hc0 : cw = 0 := by omega
            subst hc0
            have HKQ := hid (show (⟨a0, a1, a2, a3⟩ : Ky) = ⟨b0, b1, b2, b3⟩ from cmpK_eq HCW.out.symm)
            clear dl dg hlt hgt HCW
            obtain ⟨be, hbe⟩ : ∃ be, be = decide (pa = pb) := ⟨_, rfl⟩
            have HPAV := hid (HPA.out.still HBV.out)
            have HPBV := hid (HPB.out.still HBV.out)
            have HSE := hid (fun d os => (show Calls Try.prog 104 #[.slice paa pan pac, .slice pba pbn pbc] (grow (redrawn V d) os) fun r w' => r = .returned (.bool be) ∧ Below (grow (redrawn V d) os).heap.size (grow (redrawn V d) os) w' from hbe ▸ equal_any _ _ pa pb (grow (redrawn V d) os) (HPAV.out.still (below_regrown V d os)) (HPBV.out.still (below_regrown V d os)) HLA.out))
            have HBT := hid (fun h : be = true => of_decide_eq_true (show decide (pa = pb) = true from hbe ▸ h))
            have HBF := hid (fun h : be = false => of_decide_eq_false (show decide (pa = pb) = false from hbe ▸ h))
            clear hbe
            have P4 := fun d os => cell_regrown (show V.cell? ⟨ba, oa + 4, none⟩ = some (.slice paa pan pac) by rw [HBV.out.cell HBA.out, ← HBW.out.cell HBA.out]; exact hwa 4 (by decide)) d os
            have Q4 := fun d os => cell_regrown (show V.cell? ⟨bb, ob + 4, none⟩ = some (.slice pba pbn pbc) by rw [HBV.out.cell HBB.out, ← HBW.out.cell HBB.out]; exact hwb 4 (by decide)) d os
            have HOV1 := HOV
            have HBV1 := HBV
            cases be
            · have HNE := hid (HBF.out rfl)
              have HNX := hid (HCH.out.next_both hA.out hB.out HTLA.out HTLB.out HKQ.out (Or.inr ⟨HNE.out, rfl⟩))
              clear HBT HBF hwa hwb HOV HBV
              go_wp2_with fail
              refine wp_region_quiet_below (by kernel_rfl) (by kernel_rfl) ?_
              repeat (first | go_big_quiet_step ((go_at_call 104; with_reducible exact Calls.regrown_of (HSE.out _ _))) | quiet_step ((go_at_call 104; with_reducible exact Calls.regrown_of (HSE.out _ _))))
              refine wpQuiet_nil ?_
              intro _ hw'
              obtain ⟨⟨dqZ, osZ⟩, hw2⟩ := hw'
              subst hw2
              have HQZ := hid (below_regrown V dqZ osZ)
              generalize Sort.grow (redrawn V dqZ) osZ = Z at HQZ ⊢
              have hsZ := HQZ.out.size
              clear P4 Q4 HSE
              have HBV := hid (HBV1.out.trans (HQZ.out.mono HBV1.out.size))
              have HOV := hid (show OwnK Z w.heap.size ov K from OwnR.grow' HOV1.out HQZ.out)
              have hwa := HWA.out
              have A0 : Z.cell? ⟨ba, oa, none⟩ = some (.int .i64 a0) := by rw [HBV.out.cell HBA.out, ← HBW.out.cell HBA.out]; exact hwa 0 (by decide)
              have A1 : Z.cell? ⟨ba, oa + 1, none⟩ = some (.int .i64 a1) := by rw [HBV.out.cell HBA.out, ← HBW.out.cell HBA.out]; exact hwa 1 (by decide)
              have A2 : Z.cell? ⟨ba, oa + 2, none⟩ = some (.int .i64 a2) := by rw [HBV.out.cell HBA.out, ← HBW.out.cell HBA.out]; exact hwa 2 (by decide)
              have A3 : Z.cell? ⟨ba, oa + 3, none⟩ = some (.int .i64 a3) := by rw [HBV.out.cell HBA.out, ← HBW.out.cell HBA.out]; exact hwa 3 (by decide)
              clear hwa
              have HRK := hid (RowsAt.one (heap_alloc_at Z _ _ rfl) : RowsAt (Z.alloc (.cells #[.int .i64 a0, .int .i64 a1, .int .i64 a2, .int .i64 a3] 39)) Z.heap.size 0 4 [[.int .i64 a0, .int .i64 a1, .int .i64 a2, .int .i64 a3]])
              have HOA := hid (OwnR.grow' HOV.out ((Below.refl _ _).alloc (Nat.le_refl _) _) : OwnR (Z.alloc (.cells #[.int .i64 a0, .int .i64 a1, .int .i64 a2, .int .i64 a3] 39)) w.heap.size 39 4 ov (K.map Ky.row))
              have HBA2 := hid (HBV.out.alloc HBV.out.size _ : Below w.heap.size w (Z.alloc (.cells #[.int .i64 a0, .int .i64 a1, .int .i64 a2, .int .i64 a3] 39)))
              have HL1 := hid (show (K.map Ky.row).length + 1 ≤ maxLen by rw [List.length_map]; have := HKL.out; unfold maxLen; omega)
              have HL2 := hid (show ((K.map Ky.row).length + 1) * 32 ≤ 140737488355328 by rw [List.length_map]; have := HKL.out; omega)
              go_wp2_with (first
                | (at_builtin
                   refine wpList_append_rows rfl (.tmp 42) (.tmp 47) 56 rfl w.heap.size 39 i0 _ 4 32 Try.underlying56 HI.out HZ0.out HZ1.out HZ2.out rfl (by decide) _ (K.map Ky.row) [[.int .i64 a0, .int .i64 a1, .int .i64 a2, .int .i64 a3]] rfl HOA.out Z.heap.size 0 1 1 rfl rfl HRK.out (wide4 _ _ _ _) HL1.out HL2.out HBA2.out.size ?_
                   intro v6 W6 hown6 hg6 z6
                   clear z6
                   have HO6 := hid (show OwnK W6 w.heap.size v6 (K ++ [⟨a0, a1, a2, a3⟩]) by unfold OwnK; rw [List.map_append]; exact hown6)
                   have HB6 := hid (show Below w.heap.size w W6 from HBA2.out.grown hg6 HBA2.out.size (fun k hk => OwnR.ownBlock HOA.out k hk))
                   clear hown6 hg6))
              by_cases hc1 : ca = 1
              · have HTT := hid (HTA1.out hc1)
                subst hc1
                by_cases hc2 : cb = 1
                · have HTU := hid (HTB1.out hc2)
                  subst hc2
                  refine wp_region_quiet_below (by kernel_rfl) (by kernel_rfl) ?_
                  repeat (first | go_big_quiet_step (fail) | quiet_step (fail))
                  refine wpQuiet_nil ?_
                  intro _ hw'
                  obtain ⟨⟨dqU, osU⟩, hw2⟩ := hw'
                  subst hw2
                  have HQU := hid (below_regrown W6 dqU osU)
                  generalize Sort.grow (redrawn W6 dqU) osU = U at HQU ⊢
                  have hsU := HQU.out.size
                  go_wp2_with fail
                  exact ⟨⟨i + 1, j + 1, _, _, rfl, by omega, by omega, HTT.out, HTU.out, HNX.out, by rw [List.length_append]; have := HKLE.out; show K.length + 1 ≤ _; omega, OwnR.grow' HO6.out HQU.out, HB6.out.trans (HQU.out.mono HB6.out.size)⟩, by simp only [lenV]; omega⟩
                · have HTU := hid (HTB2.out hc2)
                  refine wp_region_quiet_below (by kernel_rfl) (by kernel_rfl) ?_
                  repeat (first | go_big_quiet_step (fail) | quiet_step (fail))
                  refine wpQuiet_nil ?_
                  intro _ hw'
                  obtain ⟨⟨dqU, osU⟩, hw2⟩ := hw'
                  subst hw2
                  have HQU := hid (below_regrown W6 dqU osU)
                  generalize Sort.grow (redrawn W6 dqU) osU = U at HQU ⊢
                  have hsU := HQU.out.size
                  go_wp2_with fail
                  exact ⟨⟨i + 1, j + 1, _, _, rfl, by omega, by omega, HTT.out, HTU.out, HNX.out, by rw [List.length_append]; have := HKLE.out; show K.length + 1 ≤ _; omega, OwnR.grow' HO6.out HQU.out, HB6.out.trans (HQU.out.mono HB6.out.size)⟩, by simp only [lenV]; omega⟩
              · have HTT := hid (HTA2.out hc1)
                by_cases hc2 : cb = 1
                · have HTU := hid (HTB1.out hc2)
                  subst hc2
                  refine wp_region_quiet_below (by kernel_rfl) (by kernel_rfl) ?_
                  repeat (first | go_big_quiet_step (fail) | quiet_step (fail))
                  refine wpQuiet_nil ?_
                  intro _ hw'
                  obtain ⟨⟨dqU, osU⟩, hw2⟩ := hw'
                  subst hw2
                  have HQU := hid (below_regrown W6 dqU osU)
                  generalize Sort.grow (redrawn W6 dqU) osU = U at HQU ⊢
                  have hsU := HQU.out.size
                  go_wp2_with fail
                  exact ⟨⟨i + 1, j + 1, _, _, rfl, by omega, by omega, HTT.out, HTU.out, HNX.out, by rw [List.length_append]; have := HKLE.out; show K.length + 1 ≤ _; omega, OwnR.grow' HO6.out HQU.out, HB6.out.trans (HQU.out.mono HB6.out.size)⟩, by simp only [lenV]; omega⟩
                · have HTU := hid (HTB2.out hc2)
                  refine wp_region_quiet_below (by kernel_rfl) (by kernel_rfl) ?_
                  repeat (first | go_big_quiet_step (fail) | quiet_step (fail))
                  refine wpQuiet_nil ?_
                  intro _ hw'
                  obtain ⟨⟨dqU, osU⟩, hw2⟩ := hw'
                  subst hw2
                  have HQU := hid (below_regrown W6 dqU osU)
                  generalize Sort.grow (redrawn W6 dqU) osU = U at HQU ⊢
                  have hsU := HQU.out.size
                  go_wp2_with fail
                  exact ⟨⟨i + 1, j + 1, _, _, rfl, by omega, by omega, HTT.out, HTU.out, HNX.out, by rw [List.length_append]; have := HKLE.out; show K.length + 1 ≤ _; omega, OwnR.grow' HO6.out HQU.out, HB6.out.trans (HQU.out.mono HB6.out.size)⟩, by simp only [lenV]; omega⟩
            · have HEQ := hid (HBT.out rfl)
              have HNX := hid (HCH.out.next_both hA.out hB.out HTLA.out HTLB.out HKQ.out (Or.inl ⟨HEQ.out, rfl⟩))
              clear HBT HBF hwa hwb HOV HBV
              go_wp2_with fail
              refine wp_region_quiet_below (by kernel_rfl) (by kernel_rfl) ?_
              repeat (first | go_big_quiet_step ((go_at_call 104; with_reducible exact Calls.regrown_of (HSE.out _ _))) | quiet_step ((go_at_call 104; with_reducible exact Calls.regrown_of (HSE.out _ _))))
              refine wpQuiet_nil ?_
              intro _ hw'
              obtain ⟨⟨dqZ, osZ⟩, hw2⟩ := hw'
              subst hw2
              have HQZ := hid (below_regrown V dqZ osZ)
              generalize Sort.grow (redrawn V dqZ) osZ = Z at HQZ ⊢
              have hsZ := HQZ.out.size
              clear P4 Q4 HSE
              have HBV := hid (HBV1.out.trans (HQZ.out.mono HBV1.out.size))
              have HOV := hid (show OwnK Z w.heap.size ov K from OwnR.grow' HOV1.out HQZ.out)
              go_wp2_with fail
              by_cases hc1 : ca = 1
              · have HTT := hid (HTA1.out hc1)
                subst hc1
                by_cases hc2 : cb = 1
                · have HTU := hid (HTB1.out hc2)
                  subst hc2
                  refine wp_region_quiet_below (by kernel_rfl) (by kernel_rfl) ?_
                  repeat (first | go_big_quiet_step (fail) | quiet_step (fail))
                  refine wpQuiet_nil ?_
                  intro _ hw'
                  obtain ⟨⟨dqU, osU⟩, hw2⟩ := hw'
                  subst hw2
                  have HQU := hid (below_regrown Z dqU osU)
                  generalize Sort.grow (redrawn Z dqU) osU = U at HQU ⊢
                  have hsU := HQU.out.size
                  go_wp2_with fail
                  exact ⟨⟨i + 1, j + 1, _, _, rfl, by omega, by omega, HTT.out, HTU.out, HNX.out, by have := HKLE.out; omega, OwnR.grow' HOV.out HQU.out, HBV.out.trans (HQU.out.mono HBV.out.size)⟩, by simp only [lenV]; omega⟩
                · have HTU := hid (HTB2.out hc2)
                  refine wp_region_quiet_below (by kernel_rfl) (by kernel_rfl) ?_
                  repeat (first | go_big_quiet_step (fail) | quiet_step (fail))
                  refine wpQuiet_nil ?_
                  intro _ hw'
                  obtain ⟨⟨dqU, osU⟩, hw2⟩ := hw'
                  subst hw2
                  have HQU := hid (below_regrown Z dqU osU)
                  generalize Sort.grow (redrawn Z dqU) osU = U at HQU ⊢
                  have hsU := HQU.out.size
                  go_wp2_with fail
                  exact ⟨⟨i + 1, j + 1, _, _, rfl, by omega, by omega, HTT.out, HTU.out, HNX.out, by have := HKLE.out; omega, OwnR.grow' HOV.out HQU.out, HBV.out.trans (HQU.out.mono HBV.out.size)⟩, by simp only [lenV]; omega⟩
              · have HTT := hid (HTA2.out hc1)
                by_cases hc2 : cb = 1
                · have HTU := hid (HTB1.out hc2)
                  subst hc2
                  refine wp_region_quiet_below (by kernel_rfl) (by kernel_rfl) ?_
                  repeat (first | go_big_quiet_step (fail) | quiet_step (fail))
                  refine wpQuiet_nil ?_
                  intro _ hw'
                  obtain ⟨⟨dqU, osU⟩, hw2⟩ := hw'
                  subst hw2
                  have HQU := hid (below_regrown Z dqU osU)
                  generalize Sort.grow (redrawn Z dqU) osU = U at HQU ⊢
                  have hsU := HQU.out.size
                  go_wp2_with fail
                  exact ⟨⟨i + 1, j + 1, _, _, rfl, by omega, by omega, HTT.out, HTU.out, HNX.out, by have := HKLE.out; omega, OwnR.grow' HOV.out HQU.out, HBV.out.trans (HQU.out.mono HBV.out.size)⟩, by simp only [lenV]; omega⟩
                · have HTU := hid (HTB2.out hc2)
                  refine wp_region_quiet_below (by kernel_rfl) (by kernel_rfl) ?_
                  repeat (first | go_big_quiet_step (fail) | quiet_step (fail))
                  refine wpQuiet_nil ?_
                  intro _ hw'
                  obtain ⟨⟨dqU, osU⟩, hw2⟩ := hw'
                  subst hw2
                  have HQU := hid (below_regrown Z dqU osU)
                  generalize Sort.grow (redrawn Z dqU) osU = U at HQU ⊢
                  have hsU := HQU.out.size
                  go_wp2_with fail
                  exact ⟨⟨i + 1, j + 1, _, _, rfl, by omega, by omega, HTT.out, HTU.out, HNX.out, by have := HKLE.out; omega, OwnR.grow' HOV.out HQU.out, HBV.out.trans (HQU.out.mono HBV.out.size)⟩, by simp only [lenV]; omega⟩
      · obtain rfl : lb = 0 := by omega
        have HRBB := HRB
        obtain ⟨ba, oa, ea, rfl, hba, hea, hna, hca, hcsa, hpa, hta1, hta2⟩ := RestV.head HRA.out hla0
        have HEA := hid hea
        have HBA := hid hba
        have HPA := hid hpa
        have HTA1 := hid hta1
        have HTA2 := hid hta2
        have hwa : ∀ y, y < 5 → wr.cell? ⟨ba, oa + y, none⟩ = ea.row[y]? := fun y hy => by rw [HBW.out.cell hba]; exact hcsa y hy
        have HLA := hid (HPLA.out ea (List.mem_of_getElem? hea))
        have HSA := hid (hsa.out ea.tl (List.mem_of_getElem? (tl_at hea)))
        have HTLA := hid (tl_at hea)
        have hil : i < A.length := (List.getElem?_eq_some_iff.1 hea).1
        clear hea hba hpa hta1 hta2 hcsa HRA hna hca
        obtain ⟨⟨a0, a1, a2, a3⟩, av, pa⟩ := ea
        obtain ⟨paa, pac, hav, _⟩ := HPA.out
        obtain rfl : av = .slice paa pa.length pac := hav
        obtain ⟨pan, hpan⟩ : ∃ pan, pan = pa.length := ⟨_, rfl⟩
        simp only [Te.row, Ky.row, ← hpan] at hwa HPA
        clear hpan
        have HNX := hid (HCH.out.next_left hA.out hB.out HTLA.out (fun u hu => absurd (List.getElem?_eq_some_iff.1 hu).1 (by rw [List.length_map]; have := HLBE.out; omega)))
        have A0 : wr.cell? ⟨ba, oa, none⟩ = some (.int .i64 a0) := by rw [HBV.out.cell HBA.out, ← HBW.out.cell HBA.out]; exact hwa 0 (by decide)
        have A1 : wr.cell? ⟨ba, oa + 1, none⟩ = some (.int .i64 a1) := by rw [HBV.out.cell HBA.out, ← HBW.out.cell HBA.out]; exact hwa 1 (by decide)
        have A2 : wr.cell? ⟨ba, oa + 2, none⟩ = some (.int .i64 a2) := by rw [HBV.out.cell HBA.out, ← HBW.out.cell HBA.out]; exact hwa 2 (by decide)
        have A3 : wr.cell? ⟨ba, oa + 3, none⟩ = some (.int .i64 a3) := by rw [HBV.out.cell HBA.out, ← HBW.out.cell HBA.out]; exact hwa 3 (by decide)
        by_cases hc1 : ca = 1
        · have HTT := hid (HTA1.out hc1)
          subst hc1
          have HRK := hid (RowsAt.one (heap_alloc_at wr _ _ rfl) : RowsAt (wr.alloc (.cells #[.int .i64 a0, .int .i64 a1, .int .i64 a2, .int .i64 a3] 39)) wr.heap.size 0 4 [[.int .i64 a0, .int .i64 a1, .int .i64 a2, .int .i64 a3]])
          have HOA := hid (OwnR.grow' HOV.out ((Below.refl _ _).alloc (Nat.le_refl _) _) : OwnR (wr.alloc (.cells #[.int .i64 a0, .int .i64 a1, .int .i64 a2, .int .i64 a3] 39)) w.heap.size 39 4 ov (K.map Ky.row))
          have HBA2 := hid (HBV.out.alloc HBV.out.size _ : Below w.heap.size w (wr.alloc (.cells #[.int .i64 a0, .int .i64 a1, .int .i64 a2, .int .i64 a3] 39)))
          have HL1 := hid (show (K.map Ky.row).length + 1 ≤ maxLen by rw [List.length_map]; have := HKL.out; unfold maxLen; omega)
          have HL2 := hid (show ((K.map Ky.row).length + 1) * 32 ≤ 140737488355328 by rw [List.length_map]; have := HKL.out; omega)
          go_wp2_with (first
            | (at_builtin
               refine wpList_append_rows rfl (.tmp 56) (.tmp 61) 56 rfl w.heap.size 39 i0 _ 4 32 Try.underlying56 HI.out HZ0.out HZ1.out HZ2.out rfl (by decide) _ (K.map Ky.row) [[.int .i64 a0, .int .i64 a1, .int .i64 a2, .int .i64 a3]] rfl HOA.out wr.heap.size 0 1 1 rfl rfl HRK.out (wide4 _ _ _ _) HL1.out HL2.out HBA2.out.size ?_
               intro v6 W6 hown6 hg6 z6
               clear z6
               have HO6 := hid (show OwnK W6 w.heap.size v6 (K ++ [⟨a0, a1, a2, a3⟩]) by unfold OwnK; rw [List.map_append]; exact hown6)
               have HB6 := hid (show Below w.heap.size w W6 from HBA2.out.grown hg6 HBA2.out.size (fun k hk => OwnR.ownBlock HOA.out k hk))
               clear hown6 hg6))
          exact ⟨⟨i + 1, j, _, _, rfl, by omega, by omega, HTT.out, HRBB.out, HNX.out, by rw [List.length_append]; have := HKLE.out; show K.length + 1 ≤ _; omega, HO6.out, HB6.out⟩, by simp only [lenV]; omega⟩
        · have HTT := hid (HTA2.out hc1)
          have HRK := hid (RowsAt.one (heap_alloc_at wr _ _ rfl) : RowsAt (wr.alloc (.cells #[.int .i64 a0, .int .i64 a1, .int .i64 a2, .int .i64 a3] 39)) wr.heap.size 0 4 [[.int .i64 a0, .int .i64 a1, .int .i64 a2, .int .i64 a3]])
          have HOA := hid (OwnR.grow' HOV.out ((Below.refl _ _).alloc (Nat.le_refl _) _) : OwnR (wr.alloc (.cells #[.int .i64 a0, .int .i64 a1, .int .i64 a2, .int .i64 a3] 39)) w.heap.size 39 4 ov (K.map Ky.row))
          have HBA2 := hid (HBV.out.alloc HBV.out.size _ : Below w.heap.size w (wr.alloc (.cells #[.int .i64 a0, .int .i64 a1, .int .i64 a2, .int .i64 a3] 39)))
          have HL1 := hid (show (K.map Ky.row).length + 1 ≤ maxLen by rw [List.length_map]; have := HKL.out; unfold maxLen; omega)
          have HL2 := hid (show ((K.map Ky.row).length + 1) * 32 ≤ 140737488355328 by rw [List.length_map]; have := HKL.out; omega)
          go_wp2_with (first
            | (at_builtin
               refine wpList_append_rows rfl (.tmp 56) (.tmp 61) 56 rfl w.heap.size 39 i0 _ 4 32 Try.underlying56 HI.out HZ0.out HZ1.out HZ2.out rfl (by decide) _ (K.map Ky.row) [[.int .i64 a0, .int .i64 a1, .int .i64 a2, .int .i64 a3]] rfl HOA.out wr.heap.size 0 1 1 rfl rfl HRK.out (wide4 _ _ _ _) HL1.out HL2.out HBA2.out.size ?_
               intro v6 W6 hown6 hg6 z6
               clear z6
               have HO6 := hid (show OwnK W6 w.heap.size v6 (K ++ [⟨a0, a1, a2, a3⟩]) by unfold OwnK; rw [List.map_append]; exact hown6)
               have HB6 := hid (show Below w.heap.size w W6 from HBA2.out.grown hg6 HBA2.out.size (fun k hk => OwnR.ownBlock HOA.out k hk))
               clear hown6 hg6))
          exact ⟨⟨i + 1, j, _, _, rfl, by omega, by omega, HTT.out, HRBB.out, HNX.out, by rw [List.length_append]; have := HKLE.out; show K.length + 1 ≤ _; omega, HO6.out, HB6.out⟩, by simp only [lenV]; omega⟩
    · obtain rfl : la = 0 := by omega
      by_cases hlb0 : 0 < lb
      · have dlb : decide ((0 : Int) < (lb : Int)) = true := decide_eq_true (by omega)
        have elb : ((lb : Int) == 0) = false := by simp; omega
        have HRAA := HRA
        obtain ⟨bb, ob, eb, rfl, hbb, heb, hnb, hcb, hcsb, hpb, htb1, htb2⟩ := RestV.head HRB.out hlb0
        have HEB := hid heb
        have HBB := hid hbb
        have HPB := hid hpb
        have HTB1 := hid htb1
        have HTB2 := hid htb2
        have hwb : ∀ y, y < 5 → wr.cell? ⟨bb, ob + y, none⟩ = eb.row[y]? := fun y hy => by rw [HBW.out.cell hbb]; exact hcsb y hy
        have HSB := hid (hsb.out eb.tl (List.mem_of_getElem? (tl_at heb)))
        have HTLB := hid (tl_at heb)
        have hjl : j < B.length := (List.getElem?_eq_some_iff.1 heb).1
        clear heb hbb hpb htb1 htb2 hcsb HRB hnb hcb
        obtain ⟨⟨b0, b1, b2, b3⟩, bv, pb⟩ := eb
        obtain ⟨pba, pbc, hbv, _⟩ := HPB.out
        obtain rfl : bv = .slice pba pb.length pbc := hbv
        obtain ⟨pbn, hpbn⟩ : ∃ pbn, pbn = pb.length := ⟨_, rfl⟩
        simp only [Te.row, Ky.row, ← hpbn] at hwb HPB
        clear hpbn
        have HNX := hid (HCH.out.next_right hA.out hB.out HTLB.out (fun u hu => absurd (List.getElem?_eq_some_iff.1 hu).1 (by rw [List.length_map]; have := HLAE.out; omega)))
        have B0 : wr.cell? ⟨bb, ob, none⟩ = some (.int .i64 b0) := by rw [HBV.out.cell HBB.out, ← HBW.out.cell HBB.out]; exact hwb 0 (by decide)
        have B1 : wr.cell? ⟨bb, ob + 1, none⟩ = some (.int .i64 b1) := by rw [HBV.out.cell HBB.out, ← HBW.out.cell HBB.out]; exact hwb 1 (by decide)
        have B2 : wr.cell? ⟨bb, ob + 2, none⟩ = some (.int .i64 b2) := by rw [HBV.out.cell HBB.out, ← HBW.out.cell HBB.out]; exact hwb 2 (by decide)
        have B3 : wr.cell? ⟨bb, ob + 3, none⟩ = some (.int .i64 b3) := by rw [HBV.out.cell HBB.out, ← HBW.out.cell HBB.out]; exact hwb 3 (by decide)
        by_cases hc1 : cb = 1
        · have HTT := hid (HTB1.out hc1)
          subst hc1
          have HRK := hid (RowsAt.one (heap_alloc_at wr _ _ rfl) : RowsAt (wr.alloc (.cells #[.int .i64 b0, .int .i64 b1, .int .i64 b2, .int .i64 b3] 39)) wr.heap.size 0 4 [[.int .i64 b0, .int .i64 b1, .int .i64 b2, .int .i64 b3]])
          have HOA := hid (OwnR.grow' HOV.out ((Below.refl _ _).alloc (Nat.le_refl _) _) : OwnR (wr.alloc (.cells #[.int .i64 b0, .int .i64 b1, .int .i64 b2, .int .i64 b3] 39)) w.heap.size 39 4 ov (K.map Ky.row))
          have HBA2 := hid (HBV.out.alloc HBV.out.size _ : Below w.heap.size w (wr.alloc (.cells #[.int .i64 b0, .int .i64 b1, .int .i64 b2, .int .i64 b3] 39)))
          have HL1 := hid (show (K.map Ky.row).length + 1 ≤ maxLen by rw [List.length_map]; have := HKL.out; unfold maxLen; omega)
          have HL2 := hid (show ((K.map Ky.row).length + 1) * 32 ≤ 140737488355328 by rw [List.length_map]; have := HKL.out; omega)
          go_wp2_with (first
            | (at_builtin
               refine wpList_append_rows rfl (.tmp 68) (.tmp 73) 56 rfl w.heap.size 39 i0 _ 4 32 Try.underlying56 HI.out HZ0.out HZ1.out HZ2.out rfl (by decide) _ (K.map Ky.row) [[.int .i64 b0, .int .i64 b1, .int .i64 b2, .int .i64 b3]] rfl HOA.out wr.heap.size 0 1 1 rfl rfl HRK.out (wide4 _ _ _ _) HL1.out HL2.out HBA2.out.size ?_
               intro v6 W6 hown6 hg6 z6
               clear z6
               have HO6 := hid (show OwnK W6 w.heap.size v6 (K ++ [⟨b0, b1, b2, b3⟩]) by unfold OwnK; rw [List.map_append]; exact hown6)
               have HB6 := hid (show Below w.heap.size w W6 from HBA2.out.grown hg6 HBA2.out.size (fun k hk => OwnR.ownBlock HOA.out k hk))
               clear hown6 hg6))
          exact ⟨⟨i, j + 1, _, _, rfl, by omega, by omega, HRAA.out, HTT.out, HNX.out, by rw [List.length_append]; have := HKLE.out; show K.length + 1 ≤ _; omega, HO6.out, HB6.out⟩, by simp only [lenV]; omega⟩
        · have HTT := hid (HTB2.out hc1)
          have HRK := hid (RowsAt.one (heap_alloc_at wr _ _ rfl) : RowsAt (wr.alloc (.cells #[.int .i64 b0, .int .i64 b1, .int .i64 b2, .int .i64 b3] 39)) wr.heap.size 0 4 [[.int .i64 b0, .int .i64 b1, .int .i64 b2, .int .i64 b3]])
          have HOA := hid (OwnR.grow' HOV.out ((Below.refl _ _).alloc (Nat.le_refl _) _) : OwnR (wr.alloc (.cells #[.int .i64 b0, .int .i64 b1, .int .i64 b2, .int .i64 b3] 39)) w.heap.size 39 4 ov (K.map Ky.row))
          have HBA2 := hid (HBV.out.alloc HBV.out.size _ : Below w.heap.size w (wr.alloc (.cells #[.int .i64 b0, .int .i64 b1, .int .i64 b2, .int .i64 b3] 39)))
          have HL1 := hid (show (K.map Ky.row).length + 1 ≤ maxLen by rw [List.length_map]; have := HKL.out; unfold maxLen; omega)
          have HL2 := hid (show ((K.map Ky.row).length + 1) * 32 ≤ 140737488355328 by rw [List.length_map]; have := HKL.out; omega)
          go_wp2_with (first
            | (at_builtin
               refine wpList_append_rows rfl (.tmp 68) (.tmp 73) 56 rfl w.heap.size 39 i0 _ 4 32 Try.underlying56 HI.out HZ0.out HZ1.out HZ2.out rfl (by decide) _ (K.map Ky.row) [[.int .i64 b0, .int .i64 b1, .int .i64 b2, .int .i64 b3]] rfl HOA.out wr.heap.size 0 1 1 rfl rfl HRK.out (wide4 _ _ _ _) HL1.out HL2.out HBA2.out.size ?_
               intro v6 W6 hown6 hg6 z6
               clear z6
               have HO6 := hid (show OwnK W6 w.heap.size v6 (K ++ [⟨b0, b1, b2, b3⟩]) by unfold OwnK; rw [List.map_append]; exact hown6)
               have HB6 := hid (show Below w.heap.size w W6 from HBA2.out.grown hg6 HBA2.out.size (fun k hk => OwnR.ownBlock HOA.out k hk))
               clear hown6 hg6))
          exact ⟨⟨i, j + 1, _, _, rfl, by omega, by omega, HRAA.out, HTT.out, HNX.out, by rw [List.length_append]; have := HKLE.out; show K.length + 1 ≤ _; omega, HO6.out, HB6.out⟩, by simp only [lenV]; omega⟩
      · obtain rfl : lb = 0 := by omega
        have HDN := hid (HCH.out.done (by rw [List.length_map]; have := HLAE.out; omega) (by rw [List.length_map]; have := HLBE.out; omega))
        go_wp2_with fail
        go_ret
        exact ⟨⟨_, K, rfl, HOV.out, HDN.out⟩, HBW.out⟩
end Go.Proofs.Yteanlcefdoigcaa
