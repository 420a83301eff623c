/- The reference's Ship and Receive. -/
import Derived.Test.YtpablkmdpoombaaRecv
import Derived.Test.YtpablkmdpoombaaShip
import Derived.Test.YtpablkmdpoombaaAidD
namespace Go.Proofs.Ytpablkmdpoombaa
open Go.RowKit Go.Sort

theorem ownP_nil {W : World} {base : Nat} {v : Value} {P : List Pt} (h : OwnP W base v P) : NilV v := by
  obtain ⟨_, _, h2⟩ := h
  rcases h2 with ⟨rfl, _⟩ | ⟨g, cap, cur, rfl, _⟩
  · exact nilV_zero
  · exact nilV_some _ _ _
set_option maxRecDepth 100000 in
set_option maxHeartbeats 3200000 in
theorem rShip_any (pv : Value) (S : List Pt) (w : World) (hp : PtsV w pv S) (hp0 : NilV pv) :
    Calls Try.prog 11 #[pv] w fun e w' => ShipRes w.heap.size S e w' ∧ Below w.heap.size w w' := by
  have HG := hid (rvalid_list pv S w hp)
  have HP := hid hp
  have HP0 := hid hp0
  obtain ⟨pa, pc, rfl, _⟩ := hp
  obtain ⟨n, hn⟩ : ∃ n, n = S.length := ⟨_, rfl⟩
  rw [← hn] at HG HP HP0 ⊢
  have HN := hid hn
  clear hn hp0
  cases hg : goodL S
  · rw [hg] at HG
    have HGF := hid hg
    clear hg
    go_enter Try.func11, Try.ntmps11
    go_wp2_with fail
    refine HG.out.mono ?_
    rintro r w1 ⟨rfl, hb⟩
    go_wp2_with fail
    go_ret2
    exact ⟨Or.inr ⟨HGF.out, rfl⟩, hb⟩
  · rw [hg] at HG
    have HGT := hid hg
    have hn1 : n ≤ 1024 := by rw [HN.out]; exact ((goodL_iff S).1 hg).1
    clear hg
    go_enter Try.func11, Try.ntmps11
    go_wp2_with fail
    refine HG.out.mono ?_
    rintro r w1 ⟨rfl, hb⟩
    have HB1 := hid hb
    have HP1 := hid (HP.out.still hb)
    have hz1 := hb.size
    clear hb
    go_wp2_with fail
    refine (rNumbers_own (B := w.heap.size) (lb := w1.heap.size) (lo := 0) (lc := 1) (m := 1) (zs := [(n : Int)]) (xs := []) (OwnB.nil _ _) (by simp; omega) (by simp) (fun z hz => by simp at hz; omega) rfl (by omega) (row_new (zs := [(n : Int)]) rfl rfl rfl) (by simp)).mono ?_
    rintro r w2 ⟨⟨v2, rfl, ho2⟩, hb2⟩
    have HO2 := hid ho2
    have HB2 := hid ((HB1.out.alloc hz1 (.cells #[.int .i64 (n : Int)] 3)).trans (hb2.mono (by simp; omega)))
    have HP2 := hid ((HP1.out.still (Below.alloc (Below.refl _ _) (Nat.le_refl _) (.cells #[.int .i64 (n : Int)] 3))).still hb2)
    have hz2 := HB2.out.size
    obtain ⟨p2, m2, c2, rfl⟩ := ho2.shape
    clear ho2 hb2
    go_wp2_with fail
    have HSD := hid (rsorted_any (.slice pa n pc) S w2 HP2.out HP0.out (by rw [← HN.out]; omega))
    refine HSD.out.mono ?_
    rintro r w3 ⟨⟨v3, rfl, L, ho3, hperm, hpw⟩, hb3⟩
    have HPERM := hid hperm
    have HGL := hid (goodL_perm hperm.symm HGT.out)
    have HASC := hid (asc_sorted HGT.out hperm hpw)
    have HLN := hid (hperm.length_eq.trans HN.out.symm)
    have HO3 := hid (OwnP.ptsV ho3)
    obtain ⟨a3, c3, rfl⟩ := ho3.slice
    have HB3 := hid (HB2.out.trans (hb3.mono hz2))
    have HX3 := hid (HO2.out.grow hb3)
    have hz3 := HB3.out.size
    have HNUM := hid (nums_ok HGL.out HASC.out)
    clear ho3 hperm hpw hb3
    rw [HLN.out] at HO3 ⊢
    go_wp2_with fail
    refine (rPoints_any w.heap.size _ _ L ([] ++ encs encU [(n : Int)]) w3 HX3.out hz3 (by
      have h3 := encs_len (f := encU) (m := 9) [(n : Int)] (fun z hz => nat_len (by simp at hz; omega))
      simp at h3
      simp
      omega) HO3.out HNUM.out (by rw [HLN.out]; exact hn1)).mono ?_
    rintro r w4 ⟨⟨v4, rfl, ho4⟩, hb4⟩
    have HB4 := hid (HB3.out.trans (hb4.mono hz3))
    have hz4 := HB4.out.size
    have HEQ := hid (show ([] ++ encs encU [(n : Int)]) ++ encPs 0 L = encDB L by unfold encDB; rw [HLN.out]; rfl)
    rw [HEQ.out] at ho4
    have HO4 := hid ho4
    have HLL := hid (encDB_len HGL.out HASC.out)
    obtain ⟨p4, m4, c4, rfl⟩ := ho4.shape
    clear ho4 hb4
    go_wp2_with fail
    refine (rClosed_any w.heap.size _ (encDB L) w4 HO4.out hz4 HLL.out.1 (by have := HLL.out.2; omega) (encDB_byte L)).mono ?_
    rintro r w5 ⟨⟨v5, rfl, ho5⟩, hb5⟩
    have HO5 := hid (show OwnB w5 w.heap.size v5 (encD L) from ho5)
    have HB5 := hid (HB4.out.trans hb5)
    obtain ⟨p5, m5, c5, rfl⟩ := ho5.shape
    clear ho5 hb5
    go_wp2_with fail
    go_ret2
    exact ⟨Or.inl ⟨HGT.out, _, L, rfl, HPERM.out, HASC.out, HO5.out⟩, HB5.out⟩
set_option maxRecDepth 100000 in
set_option maxHeartbeats 6400000 in
theorem rReceive_any (b off cap : Nat) (l : List Nat) (w : World) (hbw : b < w.heap.size) (hl : ∀ x ∈ l, x < 256) (hnc : l.length ≤ cap) (hc : cap ≤ 9223372036854775807) (hb : bytesAt w b off l.length (fun i => l.getD i 0)) :
    Calls Try.prog 15 #[.slice (some ⟨b, off, none⟩) l.length cap] w fun r w' => ((OkD l ∧ GotP (delR (stL l)).1 r w') ∨ (¬ OkD l ∧ r = refusedD)) ∧ Below w.heap.size w w' := by
  have HLB := hid hl
  have HBY := hid hb
  have HOK := hid (show OkD l ↔ (delR (stL l)).2.bad = false ∧ goodL (delR (stL l)).1 = true ∧ encD (delR (stL l)).1 = l from Iff.rfl)
  have HAS := hid (delR_asc (l := l))
  clear hl hb
  have HTK := hid (List.take_length (l := l))
  obtain ⟨n, hn⟩ : ∃ n, n = l.length := ⟨_, rfl⟩
  rw [← hn] at hnc ⊢
  have HN := hid hn
  clear hn
  rcases e0 : nextS false (stL l) with ⟨v0, t1⟩
  have q0 := nextU_range (stL l)
  rw [e0] at q0
  simp only at q0
  obtain ⟨N, hN⟩ : ∃ N : Nat, (if v0 < 1025 then v0 else 1025).toNat = N := ⟨_, rfl⟩
  have hN1 : N ≤ 1025 := by rw [← hN]; split <;> omega
  have HMN := hid (show min v0 1025 = (N : Int) by rw [← hN, Int.min_def]; split <;> split <;> omega)
  rcases e5 : ptsR N 0 t1 with ⟨P, t6⟩
  have HTX := hid (show delR (stL l) = (P, t6) by unfold delR; rw [e0]; simp only; rw [hN, e5])
  rw [HTX.out] at HOK HAS
  rw [HTX.out]
  have E0 := hid e0
  have E5 := hid e5
  clear e0 e5 hN
  obtain ⟨OK, hok⟩ : ∃ OK : Prop, OK = OkD l := ⟨_, rfl⟩
  rw [← hok] at HOK ⊢
  clear hok
  simp only at HOK HAS ⊢
  obtain ⟨rb, hrb⟩ : ∃ rb, rb = w.heap.size := ⟨_, rfl⟩
  have HRB := hid hrb
  have O1 := hid (show Below w.heap.size w (w.alloc (.cells #[.slice (some ⟨b, off, none⟩) n cap, .bool false] 96)) from (Below.refl _ _).alloc (Nat.le_refl _) _)
  have R1 := hid (rd_start (n := n) (cap := cap) (rb := rb) (l := l) (b := b) (off := off) (ty := 96) (w := w.alloc (.cells #[.slice (some ⟨b, off, none⟩) n cap, .bool false] 96))
    (bytes_still HBY.out hbw O1.out) HLB.out (by rw [HN.out]; omega) hnc hc (by simp; omega) (heap_alloc_at _ _ _ hrb) (by omega))
  rw [HN.out, HTK.out, ← HN.out] at R1
  have hzz : (w.alloc (.cells #[.slice (some ⟨b, off, none⟩) n cap, .bool false] 96)).heap.size = rb + 1 := by simp [hrb]
  have hwr : w.heap.size ≤ rb := by omega
  clear hrb
  go_enter Try.func15, Try.ntmps15
  go_wp2_with fail
  rw [← HRB.out]
  generalize w.alloc (.cells #[.slice (some ⟨b, off, none⟩) n cap, .bool false] 96) = W1 at *
  refine (rnum_at _ E0.out R1.out).mono ?_
  rintro r w2 ⟨rfl, hrd, hol⟩
  have R2 := hid hrd
  have O2 := hid (O1.out.trans (hol.below (B := w.heap.size) hwr (by omega)))
  have hz2 := hol.size
  clear hrd hol
  have hmn := HMN.out
  go_wp2_with fail
  clear hmn
  have HPT := hid (rpoints_any rb b N t1 _ hN1 R2.out)
  rw [E5.out] at HPT
  refine HPT.out.mono ?_
  rintro r w3 ⟨⟨v3, rfl, hown, hpl⟩, hrd, hol⟩
  have HNV := hid (ownP_nil hown)
  have HPV := hid (OwnP.ptsV hown)
  obtain ⟨oa, oc, rfl⟩ := hown.slice
  have R3 := hid hrd
  have O3 := hid (O2.out.trans (hol.below (B := w.heap.size) hwr (by omega)))
  have hz3 := O3.out.size
  simp only at hpl
  have HPL := hid hpl
  obtain ⟨pn, hpn⟩ : ∃ pn, pn = P.length := ⟨_, rfl⟩
  rw [← hpn] at HNV ⊢
  simp only [← hpn] at HPV
  clear hrd hol hown hpl hpn
  go_wp2_with fail
  refine (rShip_any _ P _ HPV.out HNV.out).mono ?_
  rintro r w4 ⟨hres, hb4⟩
  have O4 := hid (O3.out.trans (hb4.mono hz3))
  have R4 := hid (R3.out.grow hb4)
  have HP4 := hid (HPV.out.still hb4)
  have x1 := R4.out.flag.1
  clear hb4
  rcases hres with ⟨hg, v5, L, rfl, hperm, hasc, ho5⟩ | ⟨hg, rfl⟩
  · have HLP := hid (show L = P from asc_unique hasc (HAS.out hg) hperm)
    rw [HLP.out] at ho5
    have hlong := encD_long P
    obtain ⟨g9, cap9, rfl, hc9, hm9, hby9, hg9, hz9⟩ := ownB_at ho5 (by omega)
    have hs1 := str_at (cap := cap9) hby9
    have hs2 : (convert 24 9 (.slice (some ⟨b, off, none⟩) n cap)).run Try.prog w4 = .ok (.string (strL l)) w4 := by
      rw [HN.out]
      exact str_at (bytes_still HBY.out hbw O4.out)
    have HGT := hid hg
    have HSE := hid (strL_eq (l := encD P) (m := l) (encD_byte P) HLB.out)
    generalize encD P = ET at *
    generalize strL ET = S1 at *
    generalize strL l = S2 at *
    generalize ET.length = m9 at *
    clear hg ho5 hby9 hperm hasc
    cases hbad : t6.bad
    · rw [hbad] at x1
      have HBD := hid hbad
      clear hbad
      by_cases hS : S1 = S2
      · have HYES := hid (show OK from HOK.out.2 ⟨HBD.out, HGT.out, HSE.out.1 hS⟩)
        subst hS
        go_wp2_with fail
        go_ret2
        exact ⟨Or.inl ⟨HYES.out, _, rfl, HP4.out⟩, O4.out⟩
      · have hSb : (S1.toList == S2.toList) = false := str_ne hS
        have HNO := hid (show ¬ OK from fun h => hS (HSE.out.2 (HOK.out.1 h).2.2))
        go_wp2_with fail
        go_ret2
        exact ⟨Or.inr ⟨HNO.out, rfl⟩, O4.out⟩
    · rw [hbad] at x1
      have HNO := hid (show ¬ OK from fun h => by have h2 := (HOK.out.1 h).1; rw [hbad] at h2; exact Bool.noConfusion h2)
      clear hbad hs1 hs2
      go_wp2_with fail
      go_ret2
      exact ⟨Or.inr ⟨HNO.out, rfl⟩, O4.out⟩
  · have HNO := hid (show ¬ OK from fun h => by have h2 := (HOK.out.1 h).2.1; rw [hg] at h2; exact Bool.noConfusion h2)
    clear hg
    cases hbad : t6.bad
    · rw [hbad] at x1
      clear hbad
      go_wp2_with fail
      go_ret2
      exact ⟨Or.inr ⟨HNO.out, rfl⟩, O4.out⟩
    · rw [hbad] at x1
      clear hbad
      go_wp2_with fail
      go_ret2
      exact ⟨Or.inr ⟨HNO.out, rfl⟩, O4.out⟩
set_option maxRecDepth 100000 in
theorem rReceive_none (p0 : Option Addr) (cap : Nat) (w : World) :
    Calls Try.prog 15 #[.slice p0 0 cap] w fun r w' => r = refusedD ∧ Below w.heap.size w w' := by
  obtain ⟨rb, hrb⟩ : ∃ rb, rb = w.heap.size := ⟨_, rfl⟩
  have HRB := hid hrb
  have O1 := hid (show Below w.heap.size w (w.alloc (.cells #[.slice p0 0 cap, .bool false] 96)) from (Below.refl _ _).alloc (Nat.le_refl _) _)
  have R1 := hid (heap_alloc_at w (.cells #[.slice p0 0 cap, .bool false] 96) _ hrb)
  have hzz : (w.alloc (.cells #[.slice p0 0 cap, .bool false] 96)).heap.size = rb + 1 := by simp [hrb]
  have hwr : w.heap.size ≤ rb := by omega
  clear hrb
  go_enter Try.func15, Try.ntmps15
  go_wp2_with fail
  rw [← HRB.out]
  generalize w.alloc (.cells #[.slice p0 0 cap, .bool false] 96) = W1 at *
  refine (next_none rb p0 cap false _ R1.out).mono ?_
  rintro r w2 ⟨rfl, hrd, hol⟩
  have R2 := hid hrd
  have O2 := hid (O1.out.trans (hol.below (B := w.heap.size) hwr (by omega)))
  have hz2 := O2.out.size
  clear hrd hol
  go_wp2_with fail
  refine (rpoints_none rb _).mono ?_
  rintro r w3 ⟨rfl, rfl⟩
  go_wp2_with fail
  refine (rShip_any (.slice none 0 0) [] _ ⟨none, 0, rfl, Or.inl rfl⟩ nilV_zero).mono ?_
  rintro r w4 ⟨hres, hb4⟩
  have O4 := hid (O2.out.trans (hb4.mono hz2))
  have R4 := hid (heap_still hb4 R2.out)
  have x1 : w4.cell? ⟨rb, 1, none⟩ = some (.bool true) := (cell_row (j := 1) R4.out).trans rfl
  clear hb4
  rcases hres with ⟨hg, v5, L, rfl, _⟩ | ⟨hg, rfl⟩
  · go_wp2_with fail
    go_ret2
    exact ⟨rfl, O4.out⟩
  · go_wp2_with fail
    go_ret2
    exact ⟨rfl, O4.out⟩
end Go.Proofs.Ytpablkmdpoombaa
