/- The reference's numbers: quotient and remainder of natural numbers. The reference's numbers: the long division. The reference's numbers: quotient and remainder, the greatest common divisor, and integers with a sign. -/
import Derived.Test.YteoikaedpgianaaRLimb
import Derived.Test.YteoikaedpgianaaRReg
import Derived.Test.YteoikaedpgianaaRRatio
namespace Go.Proofs.Yteoikaedpgianaa
open Go.RowKit Limb

/-- 'append' of a row, or of nothing, to a row of one's own -/
theorem wpList_append_rows {P : Program} (w : World) {ops : Array Oper} {rest : List Oper} {o : Oper} {a : Act} {Q : Exit → Act → World → Prop} (hgd : o.guard = none) (s x : Operand) (t : TypeId)
    (ho : o.op = .call { callee := .builtin .append, args := #[s, x], argTypes := #[t, t] })
    (base : Nat) (e : TypeId) (i : TypeInfo) (z : Value) (bytes : Nat) (ht : P.underlying t = some (.slice e)) (hi : P.info? e = some i) (hz : i.zero = some z)
    (hsize : i.size = 1) (hby : i.bytes = bytes) (hzs : z.cells.size = 1)
    (v : Value) (n : Nat) (xs : List Value) (hs : a.eval s = v) (hown : w.ownsRow base e 1 v n xs)
    (B2 m : Nat) (vx : Value) (news : List Value) (hx : a.eval x = vx) (hnx : w.ownsRow B2 e 1 vx m news) (h1 : ∀ u ∈ news, u.oneCell' = true)
    (h63 : n + m ≤ maxLen) (hbytes : (n + m) * bytes ≤ 140737488355328) (hbase : base ≤ w.heap.size)
    (h : ∀ v' w', w'.ownsRow base e 1 v' (n + m) (xs ++ news) → w.grownBy w' v.ownBlock → wpList P ops Q rest (a.put o.dst v') w') : wpList P ops Q (o :: rest) a w := by
  rcases hnx.2 with ⟨hv, hm⟩ | ⟨g, cap, cur, hv, hg, hr, h3⟩
  · subst hm
    have hnil : news = [] := by
      have := hnx.1
      simpa using this
    subst hnil
    refine wpList_plain hgd fun K hK => ?_
    have hr := run_append_owned_none (P := P) w base t o.type e i 1 ht hi v n xs hown
    unfold Oper.wp execOp
    simp only [ho, resolve, invoke, builtin, Sem.run_bind, Sem.run_pure, Result.andThen_ok, List.map_toArray, List.map_cons, List.map_nil, hs, hx, hv, hr]
    exact hK _ _ (h v w (by simpa using hown) (World.grownBy.refl _ _))
  · refine wpList_append_own w hgd s x t ho base e i z 1 bytes ht hi hz hsize hby hzs (by decide) v n xs hs hown ⟨g, 0, none⟩ m cap news (hx.trans hv) hnx.1 (hnx.cells (by rw [hv]; rfl)) h1 h63 hbytes hbase (fun v' w' h4 h5 _ => h v' w' h4 h5)

theorem field33_1 (b : Bool) (a : Option Addr) (n c : Nat) (W : World) : (Instr.field 33 (.agg #[.bool b, .slice a n c]) 1).run Try.prog W = .ok (.slice a n c) W := by kernel_rfl
set_option maxRecDepth 100000 in
set_option maxHeartbeats 800000 in
theorem divide_low (m n : Nat) (va vb : Value) (w : World) (ha : NatAt w va m) (hb : NatAt w vb n) (hmn : m < n) :
    Calls Try.prog 129 #[va, vb] w fun r w' => (∃ q s, r = .returned (.tuple #[q, s]) ∧ NatAt w' q (m / n) ∧ NatAt w' s (m % n)) ∧ Below w.heap.size w w' := by
  have HC := hid (compare_any m n va vb w ha hb)
  have hv : cmpV m n = -1 := by unfold cmpV; rw [if_pos hmn]
  have HM := hid hmn
  rw [hv] at HC
  have HNA := hid ha
  obtain ⟨a, ca, rfl, hsa, hra⟩ := ha.open
  obtain ⟨b, cb, rfl, hsb, hrb⟩ := hb.open
  clear hmn hv hra hrb hsa hsb
  generalize (natL m).length = p at *
  generalize (natL n).length = q at *
  go_enter Try.func129, Try.ntmps129
  go_wp2_with fail
  refine HC.out.mono ?_
  rintro r w1 ⟨rfl, hb1⟩
  have HB1 := hid hb1
  clear hb1
  go_wp2_with fail
  go_ret2
  refine ⟨⟨_, _, rfl, ?_, ?_⟩, HB1.out⟩
  · rw [Nat.div_eq_of_lt HM.out]; unfold NatAt; rw [natL_zero]; exact World.ownsRow_nil _ _ _ _
  · rw [Nat.mod_eq_of_lt HM.out]; exact HNA.out.grow HB1.out

set_option maxRecDepth 100000 in
set_option maxHeartbeats 800000 in
theorem divide_short (m n : Nat) (va vb : Value) (w : World) (ha : NatAt w va m) (hb : NatAt w vb n) (hla : (natL m).length ≤ 100000) (hmn : n ≤ m) (hl : (natL n).length = 1) :
    Calls Try.prog 129 #[va, vb] w fun r w' => (∃ q s, r = .returned (.tuple #[q, s]) ∧ NatAt w' q (m / n) ∧ NatAt w' s (m % n)) ∧ Below w.heap.size w w' := by
  have HC := hid (compare_any m n va vb w ha hb)
  have hv : 0 ≤ cmpV m n := by unfold cmpV; rw [if_neg (by omega)]; split <;> decide
  have hn : n < 65536 := by have := natL_length_le.1 (Nat.le_of_eq hl); simpa using this
  have hn0 : 0 < n := by
    rcases Nat.eq_zero_or_pos n with rfl | h
    · rw [natL_zero] at hl; cases hl
    · exact h
  generalize cmpV m n = cv at *
  have HNA := hid ha
  have HLA := hid hla
  obtain ⟨a, ca, rfl, hsa, hra⟩ := ha.open
  obtain ⟨b, cb, rfl, hsb, hrb⟩ := hb.open
  rw [hl] at HC hrb ⊢
  have HB0 := hid (fun W' hW' => hrb W' hW' 0 (by decide))
  clear hmn hra hrb hsa hsb hl hla
  obtain ⟨p, hp⟩ : ∃ p, (natL m).length = p := ⟨_, rfl⟩
  rw [hp] at HC HNA ⊢
  have hpl := HLA.out
  rw [hp] at hpl
  clear hp
  go_enter Try.func129, Try.ntmps129
  go_wp2_with fail
  refine HC.out.mono ?_
  rintro r w1 ⟨rfl, hb1⟩
  have HB1 := hid hb1
  obtain ⟨g, rfl, hg, hcb⟩ := HB0.out w1 hb1
  simp only [Nat.pow_zero, Nat.div_one, Nat.mod_eq_of_lt hn] at hcb
  clear hb1
  go_wp2_with fail
  refine (short_any m n _ w1 (HNA.out.grow HB1.out) HLA.out hn0 hn).mono ?_
  rintro r w2 ⟨⟨vq, rfl, hq⟩, hb2⟩
  have HQ := hid hq
  have HB2 := hid (HB1.out.trans (hb2.mono HB1.out.size))
  have HMOD := hid (Nat.mod_lt m hn0)
  generalize hmd : m % n = md at *
  have HMD := hid hmd
  clear hq hb2
  go_wp2_with fail
  refine (small_any (md : Int) w2 (by have := HMOD.out; omega)).mono ?_
  rintro r w3 ⟨⟨vr, rfl, hr⟩, hb3⟩
  have HB3 := hid (HB2.out.trans (hb3.mono HB2.out.size))
  have HQ3 := hid (HQ.out.grow hb3)
  have HR := hid hr
  obtain ⟨ar, car, rfl, _, _⟩ := own_open hr
  have hfd := field33_1
  clear hr hb3 hmd
  go_wp2_with fail
  go_ret2
  rw [HMD.out]
  exact ⟨⟨_, _, rfl, HQ3.out.at, by have hh := HR.out.at; simp only [Int.natAbs_natCast] at hh; exact hh⟩, HB3.out⟩
end Go.Proofs.Yteoikaedpgianaa
namespace Go.Proofs.Yteoikaedpgianaa
open Go.RowKit Limb

theorem own_setCell {w : World} {B n g j : Nat} {v x : Value} {xs : List Value} (h : w.ownsRow B 3 1 v n xs) (hg : g < B) : (w.setCell ⟨g, j, none⟩ x).ownsRow B 3 1 v n xs := by
  obtain ⟨h1, h2⟩ := h
  refine ⟨h1, ?_⟩
  rcases h2 with h2 | ⟨g', cap, cur, hv, hg', hr, h3⟩
  · exact Or.inl h2
  · refine Or.inr ⟨g', cap, cur, hv, hg', ?_, h3⟩
    rw [Below.heap_setCell w ⟨g, j, none⟩ x g' (by show g' ≠ g; omega)]
    exact hr
theorem ediv_nat {z : Int} {a b : Nat} (h : z = a) : z / (b : Int) = ((a / b : Nat) : Int) := by
  subst h; rfl
/-- one limb in a slice of its own -/
theorem own_limb {w : World} {B g x : Nat} {z : Int} (hz : z = x) (hB : B ≤ g) (h : w.heap[g]? = some (.cells #[.int .i64 z] 3)) : w.ownsRow B 3 1 (.slice (some ⟨g, 0, none⟩) 1 1) 1 (i64s [x]) := by
  subst hz
  exact ⟨rfl, Or.inr ⟨g, 1, _, rfl, hB, h, Nat.le_refl _, by unfold maxLen; omega, rfl, rfl⟩⟩
theorem nat_limb {w : World} {g x : Nat} {z : Int} (hz : z = x) (h0 : x ≠ 0) (hx : x < 65536) (h : w.heap[g]? = some (.cells #[.int .i64 z] 3)) : NatAt w (.slice (some ⟨g, 0, none⟩) 1 1) x := by
  unfold NatAt
  rw [natL_single h0 hx]
  exact own_limb hz (Nat.zero_le _) h

set_option maxRecDepth 100000 in
set_option maxHeartbeats 12800000 in
theorem divide_long (m n k : Nat) (va vb : Value) (w : World) (ha : NatAt w va m) (hb : NatAt w vb n) (hla : (natL m).length ≤ 50000) (hmn : n ≤ m) (hl : (natL n).length = k + 1) (hk : 1 ≤ k) :
    Calls Try.prog 129 #[va, vb] w fun r w' => (∃ q s, r = .returned (.tuple #[q, s]) ∧ NatAt w' q (m / n) ∧ NatAt w' s (m % n)) ∧ Below w.heap.size w w' := by
  obtain ⟨i0, hi, hz0, hz1, hz2⟩ := info_parts info3
  have HI := hid hi
  have HZ0 := hid hz0
  have HZ1 := hid hz1
  have HZ2 := hid hz2
  clear hi hz0 hz1 hz2
  have HC := hid (compare_any m n va vb w ha hb)
  have hv : 0 ≤ cmpV m n := by unfold cmpV; rw [if_neg (by omega)]; split <;> decide
  have hkl : k + 1 ≤ 50000 := by have := natL_length_mono hmn; omega
  have hT := top_one hl
  have hT1 := top_pos hl
  have hT2 := digit_lt n k
  have hF := norm_pos hl
  generalize cmpV m n = cv at *
  have HNA := hid ha
  have HNB := hid hb
  have HMN := hid hmn
  have HLEN := hid hl
  have HLA := hid hla
  obtain ⟨a, ca, rfl, hsa, hra⟩ := ha.open
  obtain ⟨b, cb, rfl, hsb, hrb⟩ := hb.open
  have HBK := hid (fun W' hW' => hrb W' hW' k (by omega))
  rw [hl] at HC HNB ⊢
  clear hmn hra hrb hsa hsb hl hla ha hb
  obtain ⟨p, hp⟩ : ∃ p, (natL m).length = p := ⟨_, rfl⟩
  have HP := hid hp
  rw [hp] at HC HNA ⊢
  have hpl := HLA.out
  rw [hp] at hpl
  clear hp
  rw [hT] at hT2
  obtain ⟨T, hTT⟩ : ∃ T, n / 65536 ^ k = T := ⟨_, rfl⟩
  rw [hTT] at hT1 hT2 hF
  obtain ⟨f, hff⟩ : ∃ f, 65536 / (T + 1) = f := ⟨_, rfl⟩
  rw [hff] at hF
  have hf2 : f < 65536 := by rw [← hff]; exact (Nat.div_lt_iff_lt_mul (by omega)).2 (by omega)
  have hq : (65536 : Int).tdiv ((T : Int) + 1) = (f : Int) := by
    have := tdiv_nat (z := 65536) (a := 65536) (b := T + 1) rfl
    rw [hff] at this
    push_cast at this
    exact this
  have HTT := hid hTT
  have HT := hid (hT.trans hTT)
  clear hff hTT hT
  go_enter Try.func129, Try.ntmps129
  go_wp2_with fail
  refine HC.out.mono ?_
  rintro r w1 ⟨rfl, hb1⟩
  have HB1 := hid hb1
  obtain ⟨g, rfl, hg, hcb⟩ := HBK.out w1 hb1
  rw [HT.out] at hcb
  have HNA1 := hid (HNA.out.grow hb1)
  have HNB1 := hid (HNB.out.grow hb1)
  clear hb1 HC
  go_wp2_with fail
  clear hq
  have hf1 : (natL f).length ≤ 1 := natL_length_le.2 (by omega)
  refine (mul_any m f _ _ _ (HNA1.out.grow ((Below.refl _ _).alloc (Nat.le_refl _) _)) (nat_limb rfl (by omega) hf2 (by repeat' (first | (refine heap_alloc_at _ _ _ ?_; (first | rfl | (simp; done) | (simp; omega))) | (refine heap_alloc_past _ _ _ _ ?_)))) (by have := HLA.out; omega) (by omega)).mono ?_
  rintro r w2 ⟨⟨u, rfl, hu⟩, hb2⟩
  have FC2 := hid (heap_below hb2 (by first | (simp; done) | (simp; omega)) (by repeat' (first | (refine heap_alloc_at _ _ _ ?_; (first | rfl | (simp; done) | (simp; omega))) | (refine heap_alloc_past _ _ _ _ ?_))) : w2.heap[w1.heap.size]? = some (.cells #[.int .i64 f] 3))
  have HB2 := hid (show Below w.heap.size w w2 by
    have hB0 := HB1.out
    have hs := hB0.size
    refine Below.trans ?_ (hb2.mono (by simp; omega))
    (repeat' (first | (with_reducible exact Below.refl _ _) | (with_reducible assumption) | (with_reducible refine Below.alloc ?_ ?_ _) | (with_reducible refine Below.drew ?_) | (with_reducible refine below_drewN ?_ _) | (with_reducible refine Below.setCell ?_ ?_ _) | (with_reducible refine below_setRow ?_ ?_ _) | go_size)))
  have HNB2 := hid (show NatAt w2 _ n from own_grow (Below.trans ((Below.refl w1.heap.size w1).alloc (Nat.le_refl _) _) (hb2.mono (by simp))) HNB1.out)
  have HU2 := hid hu.at
  clear hb2 hu
  go_wp2_with fail
  refine (mul_any n f _ _ w2 HNB2.out (nat_limb rfl (by omega) hf2 FC2.out) (by have := HLEN.out; omega) (by omega)).mono ?_
  rintro r w3 ⟨⟨v, rfl, hv3⟩, hb3⟩
  have FC3 := hid (heap_still hb3 FC2.out)
  have HB3 := hid (HB2.out.trans (hb3.mono HB2.out.size))
  have HU3 := hid (HU2.out.grow hb3)
  have HV3 := hid hv3.at
  clear hb3 hv3 HNB2 HNB1 HNA1 HU2 FC2 HB2 HNA HNB HBK hcb
  have HUV := hid (show m * f / (n * f) = m / n ∧ m * f % (n * f) = m % n * f from ⟨scaled_div hF, scaled_mod⟩)
  have hle : n * f ≤ m * f := Nat.mul_le_mul_right _ HMN.out
  have hge : n ≤ n * f := Nat.le_mul_of_pos_right _ hF
  obtain ⟨kv, hkv, hkv1⟩ : ∃ kv, (natL (n * f)).length = kv + 1 ∧ 1 ≤ kv := by
    have := natL_length_mono hge
    rw [HLEN.out] at this
    exact ⟨(natL (n * f)).length - 1, by omega, by omega⟩
  obtain ⟨L, hL⟩ : ∃ L, (natL (m * f)).length = L + (kv + 1) := by
    have := natL_length_mono hle
    exact ⟨(natL (m * f)).length - (kv + 1), by omega⟩
  have hLl : L + (kv + 1) ≤ 50001 := by
    rw [← hL]
    refine Nat.le_trans ((natL_length_le (k := p + 1)).2 ?_) (by omega)
    have h1 : m < 65536 ^ p := natL_length_le.1 (Nat.le_of_eq HP.out)
    rw [Nat.pow_succ]
    exact Nat.mul_lt_mul_of_lt_of_lt h1 hf2
  have hVpos : 0 < n * f := by
    rcases Nat.eq_zero_or_pos (n * f) with h | h
    · rw [h, natL_zero] at hkv; simp at hkv
    · exact h
  generalize m * f = U at *
  generalize n * f = V at *
  obtain ⟨au, cu, rfl, hsu, hru⟩ := HU3.out.open
  obtain ⟨av, cv2, rfl, hsv, hrv⟩ := HV3.out.open
  rw [hL] at hsu hru HU3 ⊢
  rw [hkv] at hsv hrv HV3 ⊢
  obtain ⟨gu, rfl, hgu, _⟩ := hru w3 (Below.refl _ _) 0 (by omega)
  obtain ⟨gv, rfl, hgv, _⟩ := hrv w3 (Below.refl _ _) 0 (by omega)
  have hcu : L + (kv + 1) ≤ cu ∧ cu ≤ 9223372036854775807 := by
    rcases hsu with ⟨h, _⟩ | ⟨_, _, _, h1, h2⟩
    · cases h
    · exact ⟨h1, by unfold maxLen at h2; omega⟩
  have HKV := hid hkv
  have HL := hid hL
  have HRU := hid hru
  have HRV := hid hrv
  have HSU := hid hsu
  clear hkv hL hru hrv hsu hsv
  have HNEWS := hid (fun (W : World) (hW : Below w3.heap.size w3 W) (j : Nat) (u : Value) (hj : (i64s ((natL U).drop (L + 1)))[j]? = some u) => (show W.cell? ((⟨gu, L + 1, none⟩ : Addr).add j) = some u by
    have hjl : j < ((natL U).drop (L + 1)).length := by
      have := (List.getElem?_eq_some_iff.1 hj).1
      rwa [i64s_len] at this
    rw [List.length_drop, HL.out] at hjl
    obtain ⟨g', h1, h2, h3⟩ := HRU.out W hW (L + 1 + j) (by omega)
    cases h1
    rw [show (⟨gu, L + 1, none⟩ : Addr).add j = ⟨gu, L + 1 + j, none⟩ by simp [Addr.add]]
    refine h3.trans ?_
    rw [← hj]
    simp only [i64s, List.getElem?_map, List.getElem?_drop, natL_getElem? U (L + 1 + j) (by rw [HL.out]; omega)]
    rfl))
  go_wp2_with (first | (at_builtin; refine wpList_append_own _ rfl (.tmp 61) (.tmp 69) 31 rfl (w3.heap.size + 1) 3 i0 (.int .i64 0) 1 8 Try.underlying31 HI.out HZ0.out HZ1.out HZ2.out rfl (by decide) _ 0 [] rfl ⟨rfl, Or.inr ⟨w3.heap.size + 1, 0, #[], rfl, Nat.le_refl _, (by repeat' (first | (refine heap_alloc_at _ _ _ ?_; (first | rfl | (simp; done) | (simp; omega))) | (refine heap_alloc_past _ _ _ _ ?_))), Nat.le_refl _, by decide, rfl, rfl⟩⟩ ⟨gu, L + 1, none⟩ (L + (kv + 1) - (L + 1)) (cu - (L + 1)) (i64s ((natL U).drop (L + 1))) rfl (by rw [i64s_len, List.length_drop, HL.out]; omega) (HNEWS.out _ (by (repeat' (first | (with_reducible exact Below.refl _ _) | (with_reducible assumption) | (with_reducible refine Below.alloc ?_ ?_ _) | (with_reducible refine Below.drew ?_) | (with_reducible refine below_drewN ?_ _) | (with_reducible refine Below.setCell ?_ ?_ _) | (with_reducible refine below_setRow ?_ ?_ _) | go_size)))) (i64s_one _) (by unfold maxLen; omega) (by omega) (by simp) ?_; intro v' w4 hown4 hgrow4 hnil4) | (refine wpList_make_lc _ rfl (.tmp 59) (.tmp 59) 31 rfl 3 i0 (.int .i64 0) Try.underlying31 HI.out HZ0.out HZ1.out rfl .i64 .i64 ((L : Int) + 1) ((L : Int) + 1) (L + 1) (L + 1) rfl rfl rfl rfl (Nat.le_refl _) (by rw [HZ2.out]; omega) (by omega) ?_))
  have hs4 := hgrow4.size
  simp only [World.size_alloc] at hs4
  have HR4 := hid (show RowAt w4 w3.heap.size (List.replicate (L + 1) 0) from (hgrow4.block w3.heap.size (by simp; omega) (by intro h; have h' : some w3.heap.size = some (w3.heap.size + 1) := h; simp at h')).trans ((row_made w3 (L + 1)).trans rfl |> heap_alloc_past _ _ _ _))
  have HB4 := hid (show Below w3.heap.size w3 w4 from (((Below.refl w3.heap.size w3).alloc (Nat.le_refl _) _).alloc (by simp) _).grown hgrow4 (by simp; omega) (fun q hq => by have h' : some (w3.heap.size + 1) = some q := hq; cases h'; omega))
  refine (trim_any (w3.heap.size + 1) _ v' ((natL U).drop (L + 1)) w4 (by rw [List.nil_append, Nat.zero_add] at hown4; exact hown4) (fun x hx => natL_lt U x (List.mem_of_mem_drop hx))).mono ?_
  rintro r w5 ⟨⟨v5, rfl, hown5⟩, rfl⟩
  rw [drop_natL, val_natL] at hown5
  have HO5 := hid hown5
  have HST := hid (rest_start HKV.out (U := U) (L := L) (by rw [HL.out]; omega))
  clear hown4 hgrow4 hnil4 hown5 HNEWS
  go_wp2_with fail
  have HFC := hid (fun (W : World) (hW : Below w3.heap.size w3 W) => (show W.cell? ⟨w1.heap.size, 0, none⟩ = some (.int .i64 f) by
    have hh := heap_still hW FC3.out
    simp [World.cell?, hh]))
  have hs3 := HB3.out.size
  have hfl := (Array.getElem?_eq_some_iff.1 FC3.out).1
  have HRU0 := hid (fun (W : World) (hW : Below w3.heap.size w3 W) (i : Nat) (hi : i < L + (kv + 1)) => (show W.cell? ⟨gu, i, none⟩ = some (.int .i64 ((U / 65536 ^ i % 65536 : Nat) : Int)) by
    obtain ⟨g', h1, h2, h3⟩ := HRU.out W hW i hi
    cases h1
    exact h3))
  have HVT := hid (fun (W : World) (hW : Below w3.heap.size w3 W) => (show W.cell? ⟨gv, kv, none⟩ = some (.int .i64 ((V / 65536 ^ kv : Nat) : Int)) by
    obtain ⟨g', h1, h2, h3⟩ := HRV.out W hW kv (by omega)
    cases h1
    rw [← top_one HKV.out]
    exact h3))
  have hVT := top_pos HKV.out
  have hVT2 : V / 65536 ^ kv < 65536 := by rw [← top_one HKV.out]; exact digit_lt V kv
  have HGE := hid (fun (s : Nat) => guess_ge (s := s) (pow_le_of_length HKV.out))
  have HKV2 := hid (fun (s : Nat) (h : (natL s).length < kv + 1) => guess_zero (s := s) (V := V) (by rw [HKV.out]; exact h))
  have HLS := hid (fun (s : Nat) (h : s < 65536 * V) => (show (natL s).length ≤ kv + 2 from natL_length_le.2 (by
    have h1 : V < 65536 ^ (kv + 1) := natL_length_le.1 (Nat.le_of_eq HKV.out)
    rw [Nat.pow_succ]; omega)))
  clear HRU HRV HL
  go_loopw [12, 13] (fun rv iv wr => ∃ (j R : Nat) (o : List Nat), j ≤ L + 1 ∧ iv = .int .i64 ((j : Int) - 1) ∧ R < V ∧ o.length = L + 1 ∧ (∀ x ∈ o, x < 65536) ∧ (∀ i, i < j → o.getD i 0 = 0) ∧ val o * V + R * 65536 ^ j + U % 65536 ^ j = U ∧ RowAt wr w3.heap.size o ∧ NatIn (w3.heap.size + 1) wr rv R ∧ Below w3.heap.size w3 wr) (fun _ i _ => (intOf i + 1).toNat)
  case atStart => exact ⟨L + 1, U / 65536 ^ (L + 1), List.replicate (L + 1) 0, Nat.le_refl _, by go_num, HST.out, by simp, by intro x hx; simp at hx; omega, by intro j hj; simp [List.getD_eq_getElem?_getD, List.getElem?_replicate]; split <;> rfl, by rw [val_replicate_zero, Nat.zero_mul, Nat.zero_add, Nat.mul_comm]; exact Nat.div_add_mod _ _, HR4.out, HO5.out, HB4.out⟩
  case round =>
    obtain ⟨j, R, o, hj, rfl, hR, hol, holt, hz, hvv, hrow, hrest, hB⟩ := hrel
    have hszr := hB.size
    have HROW := hid hrow
    have HREST := hid hrest
    have HBW := hid hB
    have HLT := hid holt
    have HZ := hid hz
    rcases Nat.eq_zero_or_pos j with rfl | hjp
    · have HEND := hid (div_end hR hvv)
      have hcf := HFC.out wr hB
      clear hrow hrest hB holt hz hvv
      go_wp2_with fail
      have hlR : (natL R).length ≤ 100000 := by
        have := natL_length_mono (Nat.le_of_lt hR)
        rw [HKV.out] at this; omega
      refine (short_any R f _ wr HREST.out.at hlR (by omega) hf2).mono ?_
      rintro r w6 ⟨⟨vr, rfl, hr6⟩, hb6⟩
      have HR6 := hid hr6
      have HO6 := hid (RowAt.own (HROW.out.grow hb6) (Nat.le_refl _) (by omega))
      rw [hol] at HO6
      have HB6 := hid (HB3.out.trans ((HBW.out.trans (hb6.mono HBW.out.size)).mono HB3.out.size))
      clear hr6 hb6
      go_wp2_with fail
      refine (trim_any w3.heap.size (L + 1) _ o w6 HO6.out HLT.out).mono ?_
      rintro r w7 ⟨⟨v', rfl, hown⟩, rfl⟩
      go_wp2_with fail
      go_ret2
      refine ⟨⟨_, _, rfl, ?_, ?_⟩, HB6.out⟩
      · rw [← HUV.out.1, ← HEND.out.1]; exact own_base3 hown (Nat.zero_le _)
      · have hh := HR6.out.at
        rw [HEND.out.2, HUV.out.2, unscaled hF] at hh
        exact hh
    · obtain ⟨i, rfl⟩ : ∃ i, j = i + 1 := ⟨j - 1, by omega⟩
      have hcx := HRU0.out wr hB i (by omega)
      have HDIV := hid (fun (s : Nat) hs => div_step (U := U) (V := V) (R := R) (by omega) (hz i (by omega)) hvv (s := s) hs)
      have hxl := digit_lt U i
      generalize U / 65536 ^ i % 65536 = x at *
      have HSL := hid (rest_lt hR hxl)
      have HVAL := hid (show val ([x] ++ natL R) = R * 65536 + x by show x + 65536 * val (natL R) = _; rw [val_natL]; omega)
      have hlR : (natL R).length ≤ 100000 := by
        have := natL_length_mono (Nat.le_of_lt hR)
        rw [HKV.out] at this; omega
      have HSTEP := hid (HDIV.out (R * 65536 + x) rfl)
      generalize R * 65536 + x = s at *
      clear hrow hrest hB holt hz hvv
      go_wp2_with (at_builtin; refine wpList_append_rows _ rfl (.tmp 85) (.tmp 86) 31 rfl wr.heap.size 3 i0 (.int .i64 0) 8 Try.underlying31 HI.out HZ0.out HZ1.out HZ2.out rfl _ 1 (i64s [x]) rfl (own_limb rfl (Nat.le_refl _) (by repeat' (first | (refine heap_alloc_at _ _ _ ?_; (first | rfl | (simp; done) | (simp; omega))) | (refine heap_alloc_past _ _ _ _ ?_)))) (w3.heap.size + 1) (natL R).length _ (i64s (natL R)) rfl (HREST.out.alloc _) (i64s_one _) (by unfold maxLen; omega) (by omega) (by simp) ?_; intro v' w4' hown4 hgrow4)
      have hb4 : Below wr.heap.size wr w4' := ((Below.refl _ _).alloc (Nat.le_refl _) _).grown hgrow4 (by simp) (fun q hq => by have h' : some wr.heap.size = some q := hq; cases h'; omega)
      have HROW4 := hid (HROW.out.grow hb4)
      have HBW4 := hid (HBW.out.trans (hb4.mono HBW.out.size))
      have hs4' := hb4.size
      refine (trim_any wr.heap.size _ v' ([x] ++ natL R) w4' (by rw [← i64s_append] at hown4; exact hown4) (by intro y hy; simp at hy; rcases hy with rfl | hy; exact hxl; exact natL_lt R y hy)).mono ?_
      rintro r w5 ⟨⟨v6, rfl, hown6⟩, rfl⟩
      rw [HVAL.out] at hown6
      have HS6 := hid (show NatAt w4' v6 s from own_base3 hown6 (Nat.zero_le _))
      obtain ⟨a6, c6, rfl, hs6, hr6⟩ := HS6.out.open
      have HR6 := hid (hr6 w4' (Below.refl _ _))
      have hsl := HLS.out s HSL.out
      have HGE1 := hid (HGE.out s)
      have HKV3 := hid (HKV2.out s)
      have HT1 := hid (@top_one s kv)
      have HT2 := hid (@top_two s kv)
      have hlen6 := hs6.small
      have HGL := hid (guess_le hVpos HSL.out)
      clear hown4 hgrow4 hown6 hb4 hr6 hs6
      obtain ⟨ls, hls⟩ : ∃ ls, (natL s).length = ls := ⟨_, rfl⟩
      rw [hls] at hsl hlen6 HS6 HR6 ⊢
      have HLSS := hid hls
      by_cases hcase : ls < kv + 1
      · have HG0 := hid (show s / V ≤ 0 ∧ (0 : Nat) ≤ 65535 by rw [HKV3.out (by omega)]; omega)
        clear hls
        go_wp2_with fail
        have hG1 := HG0.out.2
        refine (trim_any 0 1 _ [0] _ (own_limb (z := 0) (by first | exact HGZ.out | rfl | omega) (Nat.zero_le _) (by repeat' (first | (refine heap_alloc_at _ _ _ ?_; (first | rfl | (simp; done) | (simp; omega))) | (refine heap_alloc_past _ _ _ _ ?_)))) (by intro y hy; simp at hy; omega)).mono ?_
        rintro r w7 ⟨⟨vg, rfl, hg7⟩, rfl⟩
        go_wp2_with fail
        have hbA := (Below.refl w4'.heap.size w4').alloc (Nat.le_refl _) (Obj.cells #[.int .i64 (0)] 3)
        refine (mul_any V 0 _ vg _ (HV3.out.grow (HBW4.out.alloc (by omega) _)) (by have hh := hg7; rw [show val [0] = 0 by simp [val]] at hh; exact hh) (by rw [HKV.out]; omega) (Nat.le_trans ((natL_length_le (k := 1)).2 (by omega)) (by decide))).mono ?_
        rintro r w8 ⟨⟨pv, rfl, hp8⟩, hb8⟩
        have hbB : Below w4'.heap.size w4' w8 := hbA.trans (hb8.mono (by simp))
        have HROW8 := hid (HROW4.out.grow hbB)
        have HBW8 := hid (HBW4.out.trans (hbB.mono HBW4.out.size))
        have HS8 := hid (HS6.out.grow hbB)
        have HP8 := hid hp8.at
        clear hg7 hp8 hb8 hbA hbB
        go_wp2_with fail
        go_loopw [14, 16] (fun gv pv wr2 => ∃ (G : Nat), s / V ≤ G ∧ G ≤ 65535 ∧ gv = .int .i64 G ∧ NatAt wr2 pv (V * G) ∧ RowAt wr2 w3.heap.size o ∧ NatAt wr2 (.slice a6 ls c6) s ∧ Below w3.heap.size w3 wr2) (fun gv _ _ => (intOf gv).toNat)
        case atStart => exact ⟨0, HG0.out.1, HG0.out.2, by first | (go_num; done) | exact congrArg (Value.int .i64) HGZ.out, HP8.out, HROW8.out, HS8.out, HBW8.out⟩
        case round =>
          obtain ⟨G, hG0, hG1, rfl, hpv, hrow, hs2, hB⟩ := hrel
          have HP := hid hpv
          have HROW9 := hid hrow
          have HS9 := hid hs2
          have HB9 := hid hB
          have hsz9 := hB.size
          have hlVG : (natL (V * G)).length ≤ 100000 := by
            refine Nat.le_trans ((natL_length_le (k := kv + 2)).2 ?_) (by omega)
            have h1 : V < 65536 ^ (kv + 1) := natL_length_le.1 (Nat.le_of_eq HKV.out)
            rw [Nat.pow_succ]
            exact Nat.mul_lt_mul_of_lt_of_lt h1 (by omega)
          clear hpv hrow hs2 hB
          have HC := hid (compare_any (V * G) s _ _ _ HP.out HS9.out)
          by_cases hlt : s < V * G
          · have hcv : cmpV (V * G) s = 1 := by unfold cmpV; rw [if_neg (by omega), if_pos hlt]
            rw [hcv] at HC
            obtain ⟨hn1, hn2⟩ := guess_next hVpos hlt
            have HMUL := hid (show V * G - V = V * (G - 1) by rw [Nat.mul_sub, Nat.mul_one])
            have hVG : V ≤ V * G := Nat.le_mul_of_pos_right _ hn2
            obtain ⟨G', rfl⟩ : ∃ G', G = G' + 1 := ⟨G - 1, by omega⟩
            have HN1 := hid hn1
            clear hlt hcv hn1
            go_wp2_with fail
            refine HC.out.mono ?_
            rintro r w10 ⟨rfl, hb10⟩
            have HP10 := hid (HP.out.grow hb10)
            have HROW10 := hid (HROW9.out.grow hb10)
            have HS10 := hid (HS9.out.grow hb10)
            have HB10 := hid (HB9.out.trans (hb10.mono hsz9))
            clear hb10
            go_wp2_with fail
            refine (less_any (V * (G' + 1)) V _ _ _ HP10.out (HV3.out.grow HB10.out) hlVG hVG).mono ?_
            rintro r w11 ⟨⟨pv2, rfl, hp11⟩, hb11⟩
            have HP11 := hid (show NatAt w11 pv2 (V * G') by have hh := hp11.at; rw [HMUL.out] at hh; exact hh)
            have HROW11 := hid (HROW10.out.grow hb11)
            have HS11 := hid (HS10.out.grow hb11)
            have HB11 := hid (HB10.out.trans (hb11.mono HB10.out.size))
            clear hb11 hp11
            go_wp2_with fail
            go_roundw
            case rel => exact ⟨G', HN1.out, by omega, by go_num, HP11.out, HROW11.out, HS11.out, HB11.out⟩
            case measure => (try simp [intOf]); (try omega)
          · have hcv : cmpV (V * G) s ≤ 0 := by unfold cmpV; (repeat' split) <;> omega
            have hle9 : V * G ≤ s := by omega
            have HGE9 := hid (guess_stop hG0 hVpos hle9)
            have HMOD := hid (show s - V * (s / V) = s % V by have := Nat.div_add_mod s V; omega)
            have HMODL := hid (Nat.mod_lt s hVpos)
            generalize hcc : cmpV (V * G) s = cc at *
            have HLE9 := hid hle9
            clear hlt hcc hle9 hG0
            go_wp2_with fail
            refine HC.out.mono ?_
            rintro r w10 ⟨rfl, hb10⟩
            have HP10 := hid (HP.out.grow hb10)
            have HROW10 := hid (HROW9.out.grow hb10)
            have HS10 := hid (HS9.out.grow hb10)
            have HB10 := hid (HB9.out.trans (hb10.mono hsz9))
            clear hb10
            go_wp2_with fail
            refine (less_any s (V * G) _ _ _ HS10.out HP10.out (by rw [HLSS.out]; omega) HLE9.out).mono ?_
            rintro r w11 ⟨⟨rv2, rfl, hr11⟩, hb11⟩
            have hrow11 := HROW10.out.grow hb11
            have hfr11 := hrow11.free (j := i)
            have hcr11 := hrow11.cell (j := i) (by omega)
            have hrl11 := hrow11.lt
            have HROW11 := hid hrow11
            have HB11 := hid (HB10.out.trans (hb11.mono HB10.out.size))
            have hsz11 := HB10.out.size
            have HR11 := hid (show NatIn (w3.heap.size + 1) w11 rv2 (s % V) by have hh := hr11.low (show w3.heap.size + 1 ≤ w10.heap.size from HROW10.out.lt); rw [HGE9.out, HMOD.out] at hh; exact hh)
            clear hrow11 hb11 hr11
            go_wp2_with fail
            go_roundw
            case rel => exact ⟨i, s % V, o.set i G, by omega, by go_num, HMODL.out, by rw [List.length_set]; omega, lt_set HLT.out (by omega), fun q hq => by rw [getD_set_ne (by omega)]; exact HZ.out q (by omega), by rw [HGE9.out]; exact HSTEP.out, RowAt.set HROW11.out rfl, own_setCell HR11.out (Nat.lt_succ_self _), by have hB0 := HB11.out; (repeat' (first | (with_reducible exact Below.refl _ _) | (with_reducible assumption) | (with_reducible refine Below.alloc ?_ ?_ _) | (with_reducible refine Below.drew ?_) | (with_reducible refine below_drewN ?_ _) | (with_reducible refine Below.setCell ?_ ?_ _) | (with_reducible refine below_setRow ?_ ?_ _) | go_size))⟩
            case measure => (try simp [intOf]); (try omega)
      · by_cases hcase2 : ls = kv + 1
        · obtain ⟨g6, rfl, hg6, hc6⟩ := HR6.out kv (by omega)
          have HTP := hid (HT1.out (by rw [hls, hcase2]))
          have hcd : w4'.cell? ⟨g6, kv, none⟩ = some (.int .i64 ((s / 65536 ^ kv : Nat) : Int)) := hc6.trans (by show some (Value.int .i64 ((s / 65536 ^ kv % 65536 : Nat) : Int)) = _; rw [HTP.out])
          have htl : s / 65536 ^ kv < 65536 := by rw [← HTP.out]; exact digit_lt s kv
          have hcv1 := HVT.out w4' HBW4.out
          have htd : ((s / 65536 ^ kv : Nat) : Int) / ((V / 65536 ^ kv : Nat) : Int) = ((s / 65536 ^ kv / (V / 65536 ^ kv) : Nat) : Int) := (ediv_nat rfl)
          have hql : s / 65536 ^ kv / (V / 65536 ^ kv) ≤ s / 65536 ^ kv := Nat.div_le_self _ _
          have HG0 := hid (show s / V ≤ s / 65536 ^ kv / (V / 65536 ^ kv) ∧ s / 65536 ^ kv / (V / 65536 ^ kv) ≤ 65535 from ⟨HGE1.out, by omega⟩)
          generalize s / 65536 ^ kv / (V / 65536 ^ kv) = G0 at *
          generalize s / 65536 ^ kv = tp at *
          generalize V / 65536 ^ kv = vt at *
          subst hcase2
          have HW := hid (show wrap64 ((tp : Int) / (vt : Int)) = G0 by rw [htd]; unfold wrap64; omega)
          clear hls hc6 htd
          go_wp2_with fail
          · exfalso
            have hh := HW.out
            simp only [hh] at *
            omega
          · simp only [HW.out]
            have hG1 := HG0.out.2
            refine (trim_any 0 1 _ [G0] _ (own_limb (z := (G0 : Int)) (by first | exact HGZ.out | rfl | omega) (Nat.zero_le _) (by repeat' (first | (refine heap_alloc_at _ _ _ ?_; (first | rfl | (simp; done) | (simp; omega))) | (refine heap_alloc_past _ _ _ _ ?_)))) (by intro y hy; simp at hy; omega)).mono ?_
            rintro r w7 ⟨⟨vg, rfl, hg7⟩, rfl⟩
            go_wp2_with fail
            have hbA := (Below.refl w4'.heap.size w4').alloc (Nat.le_refl _) (Obj.cells #[.int .i64 ((G0 : Int))] 3)
            refine (mul_any V G0 _ vg _ (HV3.out.grow (HBW4.out.alloc (by omega) _)) (by have hh := hg7; rw [show val [G0] = G0 by simp [val]] at hh; exact hh) (by rw [HKV.out]; omega) (Nat.le_trans ((natL_length_le (k := 1)).2 (by omega)) (by decide))).mono ?_
            rintro r w8 ⟨⟨pv, rfl, hp8⟩, hb8⟩
            have hbB : Below w4'.heap.size w4' w8 := hbA.trans (hb8.mono (by simp))
            have HROW8 := hid (HROW4.out.grow hbB)
            have HBW8 := hid (HBW4.out.trans (hbB.mono HBW4.out.size))
            have HS8 := hid (HS6.out.grow hbB)
            have HP8 := hid hp8.at
            clear hg7 hp8 hb8 hbA hbB
            go_wp2_with fail
            go_loopw [14, 16] (fun gv pv wr2 => ∃ (G : Nat), s / V ≤ G ∧ G ≤ 65535 ∧ gv = .int .i64 G ∧ NatAt wr2 pv (V * G) ∧ RowAt wr2 w3.heap.size o ∧ NatAt wr2 (.slice (some ⟨g6, 0, none⟩) (kv + 1) c6) s ∧ Below w3.heap.size w3 wr2) (fun gv _ _ => (intOf gv).toNat)
            case atStart => exact ⟨G0, HG0.out.1, HG0.out.2, by first | (go_num; done) | exact congrArg (Value.int .i64) HGZ.out, HP8.out, HROW8.out, HS8.out, HBW8.out⟩
            case round =>
              obtain ⟨G, hG0, hG1, rfl, hpv, hrow, hs2, hB⟩ := hrel
              have HP := hid hpv
              have HROW9 := hid hrow
              have HS9 := hid hs2
              have HB9 := hid hB
              have hsz9 := hB.size
              have hlVG : (natL (V * G)).length ≤ 100000 := by
                refine Nat.le_trans ((natL_length_le (k := kv + 2)).2 ?_) (by omega)
                have h1 : V < 65536 ^ (kv + 1) := natL_length_le.1 (Nat.le_of_eq HKV.out)
                rw [Nat.pow_succ]
                exact Nat.mul_lt_mul_of_lt_of_lt h1 (by omega)
              clear hpv hrow hs2 hB
              have HC := hid (compare_any (V * G) s _ _ _ HP.out HS9.out)
              by_cases hlt : s < V * G
              · have hcv : cmpV (V * G) s = 1 := by unfold cmpV; rw [if_neg (by omega), if_pos hlt]
                rw [hcv] at HC
                obtain ⟨hn1, hn2⟩ := guess_next hVpos hlt
                have HMUL := hid (show V * G - V = V * (G - 1) by rw [Nat.mul_sub, Nat.mul_one])
                have hVG : V ≤ V * G := Nat.le_mul_of_pos_right _ hn2
                obtain ⟨G', rfl⟩ : ∃ G', G = G' + 1 := ⟨G - 1, by omega⟩
                have HN1 := hid hn1
                clear hlt hcv hn1
                go_wp2_with fail
                refine HC.out.mono ?_
                rintro r w10 ⟨rfl, hb10⟩
                have HP10 := hid (HP.out.grow hb10)
                have HROW10 := hid (HROW9.out.grow hb10)
                have HS10 := hid (HS9.out.grow hb10)
                have HB10 := hid (HB9.out.trans (hb10.mono hsz9))
                clear hb10
                go_wp2_with fail
                refine (less_any (V * (G' + 1)) V _ _ _ HP10.out (HV3.out.grow HB10.out) hlVG hVG).mono ?_
                rintro r w11 ⟨⟨pv2, rfl, hp11⟩, hb11⟩
                have HP11 := hid (show NatAt w11 pv2 (V * G') by have hh := hp11.at; rw [HMUL.out] at hh; exact hh)
                have HROW11 := hid (HROW10.out.grow hb11)
                have HS11 := hid (HS10.out.grow hb11)
                have HB11 := hid (HB10.out.trans (hb11.mono HB10.out.size))
                clear hb11 hp11
                go_wp2_with fail
                go_roundw
                case rel => exact ⟨G', HN1.out, by omega, by go_num, HP11.out, HROW11.out, HS11.out, HB11.out⟩
                case measure => (try simp [intOf]); (try omega)
              · have hcv : cmpV (V * G) s ≤ 0 := by unfold cmpV; (repeat' split) <;> omega
                have hle9 : V * G ≤ s := by omega
                have HGE9 := hid (guess_stop hG0 hVpos hle9)
                have HMOD := hid (show s - V * (s / V) = s % V by have := Nat.div_add_mod s V; omega)
                have HMODL := hid (Nat.mod_lt s hVpos)
                generalize hcc : cmpV (V * G) s = cc at *
                have HLE9 := hid hle9
                clear hlt hcc hle9 hG0
                go_wp2_with fail
                refine HC.out.mono ?_
                rintro r w10 ⟨rfl, hb10⟩
                have HP10 := hid (HP.out.grow hb10)
                have HROW10 := hid (HROW9.out.grow hb10)
                have HS10 := hid (HS9.out.grow hb10)
                have HB10 := hid (HB9.out.trans (hb10.mono hsz9))
                clear hb10
                go_wp2_with fail
                refine (less_any s (V * G) _ _ _ HS10.out HP10.out (by rw [HLSS.out]; omega) HLE9.out).mono ?_
                rintro r w11 ⟨⟨rv2, rfl, hr11⟩, hb11⟩
                have hrow11 := HROW10.out.grow hb11
                have hfr11 := hrow11.free (j := i)
                have hcr11 := hrow11.cell (j := i) (by omega)
                have hrl11 := hrow11.lt
                have HROW11 := hid hrow11
                have HB11 := hid (HB10.out.trans (hb11.mono HB10.out.size))
                have hsz11 := HB10.out.size
                have HR11 := hid (show NatIn (w3.heap.size + 1) w11 rv2 (s % V) by have hh := hr11.low (show w3.heap.size + 1 ≤ w10.heap.size from HROW10.out.lt); rw [HGE9.out, HMOD.out] at hh; exact hh)
                clear hrow11 hb11 hr11
                go_wp2_with fail
                go_roundw
                case rel => exact ⟨i, s % V, o.set i G, by omega, by go_num, HMODL.out, by rw [List.length_set]; omega, lt_set HLT.out (by omega), fun q hq => by rw [getD_set_ne (by omega)]; exact HZ.out q (by omega), by rw [HGE9.out]; exact HSTEP.out, RowAt.set HROW11.out rfl, own_setCell HR11.out (Nat.lt_succ_self _), by have hB0 := HB11.out; (repeat' (first | (with_reducible exact Below.refl _ _) | (with_reducible assumption) | (with_reducible refine Below.alloc ?_ ?_ _) | (with_reducible refine Below.drew ?_) | (with_reducible refine below_drewN ?_ _) | (with_reducible refine Below.setCell ?_ ?_ _) | (with_reducible refine below_setRow ?_ ?_ _) | go_size))⟩
                case measure => (try simp [intOf]); (try omega)
        · have hcase3 : ls = kv + 2 := by omega
          obtain ⟨g6, rfl, hg6, hc6⟩ := HR6.out kv (by omega)
          obtain ⟨g6', hg6e, hg6', hc7⟩ := HR6.out (kv + 1) (by omega)
          cases hg6e
          have HTP := hid (HT2.out (by rw [hls, hcase3]))
          have hd0 := digit_lt s kv
          have hd1 := digit_lt s (kv + 1)
          have hcd0 : w4'.cell? ⟨g6, kv, none⟩ = some (.int .i64 ((s / 65536 ^ kv % 65536 : Nat) : Int)) := hc6
          have hcd1 : w4'.cell? ⟨g6, kv + 1, none⟩ = some (.int .i64 ((s / 65536 ^ (kv + 1) % 65536 : Nat) : Int)) := hc7
          have hcv1 := HVT.out w4' HBW4.out
          have htd : (((s / 65536 ^ (kv + 1) % 65536 : Nat) : Int) * 65536 + ((s / 65536 ^ kv % 65536 : Nat) : Int)).tdiv ((V / 65536 ^ kv : Nat) : Int) = ((s / 65536 ^ kv / (V / 65536 ^ kv) : Nat) : Int) := tdiv_nat (by rw [← HTP.out]; omega)
          have hgl := HGE1.out
          have hql : s / 65536 ^ kv / (V / 65536 ^ kv) ≤ 4294967295 := Nat.le_trans (Nat.div_le_self _ _) (by rw [← HTP.out]; omega)
          generalize s / 65536 ^ kv / (V / 65536 ^ kv) = G0 at *
          generalize s / 65536 ^ kv % 65536 = d0 at *
          generalize s / 65536 ^ (kv + 1) % 65536 = d1 at *
          generalize V / 65536 ^ kv = vt at *
          subst hcase3
          have HGLE := hid hgl
          obtain ⟨D0, hD0⟩ : ∃ z : Int, z = (d0 : Int) := ⟨_, rfl⟩
          obtain ⟨D1, hD1⟩ : ∃ z : Int, z = (d1 : Int) := ⟨_, rfl⟩
          obtain ⟨VT, hVTT⟩ : ∃ z : Int, z = (vt : Int) := ⟨_, rfl⟩
          rw [← hD0] at hcd0 htd
          rw [← hD1] at hcd1 htd
          rw [← hVTT] at hcv1 htd
          obtain ⟨GZ, hGZ⟩ : ∃ z : Int, z = (G0 : Int) := ⟨_, rfl⟩
          rw [← hGZ] at htd
          have HGZ := hid hGZ
          have hdi : (0 ≤ D0 ∧ D0 < 65536) ∧ (0 ≤ D1 ∧ D1 < 65536) ∧ 1 ≤ VT ∧ VT < 65536 := by omega
          have hqi : 0 ≤ GZ ∧ GZ ≤ 4294967295 := by omega
          clear hls hc6 hc7 hcase2 hcase hgl hql hd0 hd1 hD0 hD1 hVTT hGZ
          by_cases hbig : 65536 ≤ G0
          · have HG0 := hid (show s / V ≤ 65535 ∧ 65535 ≤ 65535 from ⟨HGL.out, by omega⟩)
            have HBIG := hid hbig
            clear hbig
            go_wp2_with fail
            · have hG1 := HG0.out.2
              refine (trim_any 0 1 _ [65535] _ (own_limb (z := 65535) (by first | exact HGZ.out | rfl | omega) (Nat.zero_le _) (by repeat' (first | (refine heap_alloc_at _ _ _ ?_; (first | rfl | (simp; done) | (simp; omega))) | (refine heap_alloc_past _ _ _ _ ?_)))) (by intro y hy; simp at hy; omega)).mono ?_
              rintro r w7 ⟨⟨vg, rfl, hg7⟩, rfl⟩
              go_wp2_with fail
              have hbA := (Below.refl w4'.heap.size w4').alloc (Nat.le_refl _) (Obj.cells #[.int .i64 (65535)] 3)
              refine (mul_any V 65535 _ vg _ (HV3.out.grow (HBW4.out.alloc (by omega) _)) (by have hh := hg7; rw [show val [65535] = 65535 by simp [val]] at hh; exact hh) (by rw [HKV.out]; omega) (Nat.le_trans ((natL_length_le (k := 1)).2 (by omega)) (by decide))).mono ?_
              rintro r w8 ⟨⟨pv, rfl, hp8⟩, hb8⟩
              have hbB : Below w4'.heap.size w4' w8 := hbA.trans (hb8.mono (by simp))
              have HROW8 := hid (HROW4.out.grow hbB)
              have HBW8 := hid (HBW4.out.trans (hbB.mono HBW4.out.size))
              have HS8 := hid (HS6.out.grow hbB)
              have HP8 := hid hp8.at
              clear hg7 hp8 hb8 hbA hbB
              go_wp2_with fail
              go_loopw [14, 16] (fun gv pv wr2 => ∃ (G : Nat), s / V ≤ G ∧ G ≤ 65535 ∧ gv = .int .i64 G ∧ NatAt wr2 pv (V * G) ∧ RowAt wr2 w3.heap.size o ∧ NatAt wr2 (.slice (some ⟨g6, 0, none⟩) (kv + 2) c6) s ∧ Below w3.heap.size w3 wr2) (fun gv _ _ => (intOf gv).toNat)
              case atStart => exact ⟨65535, HG0.out.1, HG0.out.2, by first | (go_num; done) | exact congrArg (Value.int .i64) HGZ.out, HP8.out, HROW8.out, HS8.out, HBW8.out⟩
              case round =>
                obtain ⟨G, hG0, hG1, rfl, hpv, hrow, hs2, hB⟩ := hrel
                have HP := hid hpv
                have HROW9 := hid hrow
                have HS9 := hid hs2
                have HB9 := hid hB
                have hsz9 := hB.size
                have hlVG : (natL (V * G)).length ≤ 100000 := by
                  refine Nat.le_trans ((natL_length_le (k := kv + 2)).2 ?_) (by omega)
                  have h1 : V < 65536 ^ (kv + 1) := natL_length_le.1 (Nat.le_of_eq HKV.out)
                  rw [Nat.pow_succ]
                  exact Nat.mul_lt_mul_of_lt_of_lt h1 (by omega)
                clear hpv hrow hs2 hB
                have HC := hid (compare_any (V * G) s _ _ _ HP.out HS9.out)
                by_cases hlt : s < V * G
                · have hcv : cmpV (V * G) s = 1 := by unfold cmpV; rw [if_neg (by omega), if_pos hlt]
                  rw [hcv] at HC
                  obtain ⟨hn1, hn2⟩ := guess_next hVpos hlt
                  have HMUL := hid (show V * G - V = V * (G - 1) by rw [Nat.mul_sub, Nat.mul_one])
                  have hVG : V ≤ V * G := Nat.le_mul_of_pos_right _ hn2
                  obtain ⟨G', rfl⟩ : ∃ G', G = G' + 1 := ⟨G - 1, by omega⟩
                  have HN1 := hid hn1
                  clear hlt hcv hn1
                  go_wp2_with fail
                  refine HC.out.mono ?_
                  rintro r w10 ⟨rfl, hb10⟩
                  have HP10 := hid (HP.out.grow hb10)
                  have HROW10 := hid (HROW9.out.grow hb10)
                  have HS10 := hid (HS9.out.grow hb10)
                  have HB10 := hid (HB9.out.trans (hb10.mono hsz9))
                  clear hb10
                  go_wp2_with fail
                  refine (less_any (V * (G' + 1)) V _ _ _ HP10.out (HV3.out.grow HB10.out) hlVG hVG).mono ?_
                  rintro r w11 ⟨⟨pv2, rfl, hp11⟩, hb11⟩
                  have HP11 := hid (show NatAt w11 pv2 (V * G') by have hh := hp11.at; rw [HMUL.out] at hh; exact hh)
                  have HROW11 := hid (HROW10.out.grow hb11)
                  have HS11 := hid (HS10.out.grow hb11)
                  have HB11 := hid (HB10.out.trans (hb11.mono HB10.out.size))
                  clear hb11 hp11
                  go_wp2_with fail
                  go_roundw
                  case rel => exact ⟨G', HN1.out, by omega, by go_num, HP11.out, HROW11.out, HS11.out, HB11.out⟩
                  case measure => (try simp [intOf]); (try omega)
                · have hcv : cmpV (V * G) s ≤ 0 := by unfold cmpV; (repeat' split) <;> omega
                  have hle9 : V * G ≤ s := by omega
                  have HGE9 := hid (guess_stop hG0 hVpos hle9)
                  have HMOD := hid (show s - V * (s / V) = s % V by have := Nat.div_add_mod s V; omega)
                  have HMODL := hid (Nat.mod_lt s hVpos)
                  generalize hcc : cmpV (V * G) s = cc at *
                  have HLE9 := hid hle9
                  clear hlt hcc hle9 hG0
                  go_wp2_with fail
                  refine HC.out.mono ?_
                  rintro r w10 ⟨rfl, hb10⟩
                  have HP10 := hid (HP.out.grow hb10)
                  have HROW10 := hid (HROW9.out.grow hb10)
                  have HS10 := hid (HS9.out.grow hb10)
                  have HB10 := hid (HB9.out.trans (hb10.mono hsz9))
                  clear hb10
                  go_wp2_with fail
                  refine (less_any s (V * G) _ _ _ HS10.out HP10.out (by rw [HLSS.out]; omega) HLE9.out).mono ?_
                  rintro r w11 ⟨⟨rv2, rfl, hr11⟩, hb11⟩
                  have hrow11 := HROW10.out.grow hb11
                  have hfr11 := hrow11.free (j := i)
                  have hcr11 := hrow11.cell (j := i) (by omega)
                  have hrl11 := hrow11.lt
                  have HROW11 := hid hrow11
                  have HB11 := hid (HB10.out.trans (hb11.mono HB10.out.size))
                  have hsz11 := HB10.out.size
                  have HR11 := hid (show NatIn (w3.heap.size + 1) w11 rv2 (s % V) by have hh := hr11.low (show w3.heap.size + 1 ≤ w10.heap.size from HROW10.out.lt); rw [HGE9.out, HMOD.out] at hh; exact hh)
                  clear hrow11 hb11 hr11
                  go_wp2_with fail
                  go_roundw
                  case rel => exact ⟨i, s % V, o.set i G, by omega, by go_num, HMODL.out, by rw [List.length_set]; omega, lt_set HLT.out (by omega), fun q hq => by rw [getD_set_ne (by omega)]; exact HZ.out q (by omega), by rw [HGE9.out]; exact HSTEP.out, RowAt.set HROW11.out rfl, own_setCell HR11.out (Nat.lt_succ_self _), by have hB0 := HB11.out; (repeat' (first | (with_reducible exact Below.refl _ _) | (with_reducible assumption) | (with_reducible refine Below.alloc ?_ ?_ _) | (with_reducible refine Below.drew ?_) | (with_reducible refine below_drewN ?_ _) | (with_reducible refine Below.setCell ?_ ?_ _) | (with_reducible refine below_setRow ?_ ?_ _) | go_size))⟩
                  case measure => (try simp [intOf]); (try omega)
            · exfalso
              have := HBIG.out
              have := HGZ.out
              omega
          · have HG0 := hid (show s / V ≤ G0 ∧ G0 ≤ 65535 from ⟨HGLE.out, by omega⟩)
            have HBIG := hid hbig
            clear hbig
            go_wp2_with fail
            · exfalso
              have := HBIG.out
              have := HGZ.out
              omega
            · have hG1 := HG0.out.2
              refine (trim_any 0 1 _ [G0] _ (own_limb (z := GZ) (by first | exact HGZ.out | rfl | omega) (Nat.zero_le _) (by repeat' (first | (refine heap_alloc_at _ _ _ ?_; (first | rfl | (simp; done) | (simp; omega))) | (refine heap_alloc_past _ _ _ _ ?_)))) (by intro y hy; simp at hy; omega)).mono ?_
              rintro r w7 ⟨⟨vg, rfl, hg7⟩, rfl⟩
              go_wp2_with fail
              have hbA := (Below.refl w4'.heap.size w4').alloc (Nat.le_refl _) (Obj.cells #[.int .i64 (GZ)] 3)
              refine (mul_any V G0 _ vg _ (HV3.out.grow (HBW4.out.alloc (by omega) _)) (by have hh := hg7; rw [show val [G0] = G0 by simp [val]] at hh; exact hh) (by rw [HKV.out]; omega) (Nat.le_trans ((natL_length_le (k := 1)).2 (by omega)) (by decide))).mono ?_
              rintro r w8 ⟨⟨pv, rfl, hp8⟩, hb8⟩
              have hbB : Below w4'.heap.size w4' w8 := hbA.trans (hb8.mono (by simp))
              have HROW8 := hid (HROW4.out.grow hbB)
              have HBW8 := hid (HBW4.out.trans (hbB.mono HBW4.out.size))
              have HS8 := hid (HS6.out.grow hbB)
              have HP8 := hid hp8.at
              clear hg7 hp8 hb8 hbA hbB
              go_wp2_with fail
              go_loopw [14, 16] (fun gv pv wr2 => ∃ (G : Nat), s / V ≤ G ∧ G ≤ 65535 ∧ gv = .int .i64 G ∧ NatAt wr2 pv (V * G) ∧ RowAt wr2 w3.heap.size o ∧ NatAt wr2 (.slice (some ⟨g6, 0, none⟩) (kv + 2) c6) s ∧ Below w3.heap.size w3 wr2) (fun gv _ _ => (intOf gv).toNat)
              case atStart => exact ⟨G0, HG0.out.1, HG0.out.2, by first | (go_num; done) | exact congrArg (Value.int .i64) HGZ.out, HP8.out, HROW8.out, HS8.out, HBW8.out⟩
              case round =>
                obtain ⟨G, hG0, hG1, rfl, hpv, hrow, hs2, hB⟩ := hrel
                have HP := hid hpv
                have HROW9 := hid hrow
                have HS9 := hid hs2
                have HB9 := hid hB
                have hsz9 := hB.size
                have hlVG : (natL (V * G)).length ≤ 100000 := by
                  refine Nat.le_trans ((natL_length_le (k := kv + 2)).2 ?_) (by omega)
                  have h1 : V < 65536 ^ (kv + 1) := natL_length_le.1 (Nat.le_of_eq HKV.out)
                  rw [Nat.pow_succ]
                  exact Nat.mul_lt_mul_of_lt_of_lt h1 (by omega)
                clear hpv hrow hs2 hB
                have HC := hid (compare_any (V * G) s _ _ _ HP.out HS9.out)
                by_cases hlt : s < V * G
                · have hcv : cmpV (V * G) s = 1 := by unfold cmpV; rw [if_neg (by omega), if_pos hlt]
                  rw [hcv] at HC
                  obtain ⟨hn1, hn2⟩ := guess_next hVpos hlt
                  have HMUL := hid (show V * G - V = V * (G - 1) by rw [Nat.mul_sub, Nat.mul_one])
                  have hVG : V ≤ V * G := Nat.le_mul_of_pos_right _ hn2
                  obtain ⟨G', rfl⟩ : ∃ G', G = G' + 1 := ⟨G - 1, by omega⟩
                  have HN1 := hid hn1
                  clear hlt hcv hn1
                  go_wp2_with fail
                  refine HC.out.mono ?_
                  rintro r w10 ⟨rfl, hb10⟩
                  have HP10 := hid (HP.out.grow hb10)
                  have HROW10 := hid (HROW9.out.grow hb10)
                  have HS10 := hid (HS9.out.grow hb10)
                  have HB10 := hid (HB9.out.trans (hb10.mono hsz9))
                  clear hb10
                  go_wp2_with fail
                  refine (less_any (V * (G' + 1)) V _ _ _ HP10.out (HV3.out.grow HB10.out) hlVG hVG).mono ?_
                  rintro r w11 ⟨⟨pv2, rfl, hp11⟩, hb11⟩
                  have HP11 := hid (show NatAt w11 pv2 (V * G') by have hh := hp11.at; rw [HMUL.out] at hh; exact hh)
                  have HROW11 := hid (HROW10.out.grow hb11)
                  have HS11 := hid (HS10.out.grow hb11)
                  have HB11 := hid (HB10.out.trans (hb11.mono HB10.out.size))
                  clear hb11 hp11
                  go_wp2_with fail
                  go_roundw
                  case rel => exact ⟨G', HN1.out, by omega, by go_num, HP11.out, HROW11.out, HS11.out, HB11.out⟩
                  case measure => (try simp [intOf]); (try omega)
                · have hcv : cmpV (V * G) s ≤ 0 := by unfold cmpV; (repeat' split) <;> omega
                  have hle9 : V * G ≤ s := by omega
                  have HGE9 := hid (guess_stop hG0 hVpos hle9)
                  have HMOD := hid (show s - V * (s / V) = s % V by have := Nat.div_add_mod s V; omega)
                  have HMODL := hid (Nat.mod_lt s hVpos)
                  generalize hcc : cmpV (V * G) s = cc at *
                  have HLE9 := hid hle9
                  clear hlt hcc hle9 hG0
                  go_wp2_with fail
                  refine HC.out.mono ?_
                  rintro r w10 ⟨rfl, hb10⟩
                  have HP10 := hid (HP.out.grow hb10)
                  have HROW10 := hid (HROW9.out.grow hb10)
                  have HS10 := hid (HS9.out.grow hb10)
                  have HB10 := hid (HB9.out.trans (hb10.mono hsz9))
                  clear hb10
                  go_wp2_with fail
                  refine (less_any s (V * G) _ _ _ HS10.out HP10.out (by rw [HLSS.out]; omega) HLE9.out).mono ?_
                  rintro r w11 ⟨⟨rv2, rfl, hr11⟩, hb11⟩
                  have hrow11 := HROW10.out.grow hb11
                  have hfr11 := hrow11.free (j := i)
                  have hcr11 := hrow11.cell (j := i) (by omega)
                  have hrl11 := hrow11.lt
                  have HROW11 := hid hrow11
                  have HB11 := hid (HB10.out.trans (hb11.mono HB10.out.size))
                  have hsz11 := HB10.out.size
                  have HR11 := hid (show NatIn (w3.heap.size + 1) w11 rv2 (s % V) by have hh := hr11.low (show w3.heap.size + 1 ≤ w10.heap.size from HROW10.out.lt); rw [HGE9.out, HMOD.out] at hh; exact hh)
                  clear hrow11 hb11 hr11
                  go_wp2_with fail
                  go_roundw
                  case rel => exact ⟨i, s % V, o.set i G, by omega, by go_num, HMODL.out, by rw [List.length_set]; omega, lt_set HLT.out (by omega), fun q hq => by rw [getD_set_ne (by omega)]; exact HZ.out q (by omega), by rw [HGE9.out]; exact HSTEP.out, RowAt.set HROW11.out rfl, own_setCell HR11.out (Nat.lt_succ_self _), by have hB0 := HB11.out; (repeat' (first | (with_reducible exact Below.refl _ _) | (with_reducible assumption) | (with_reducible refine Below.alloc ?_ ?_ _) | (with_reducible refine Below.drew ?_) | (with_reducible refine below_drewN ?_ _) | (with_reducible refine Below.setCell ?_ ?_ _) | (with_reducible refine below_setRow ?_ ?_ _) | go_size))⟩
                  case measure => (try simp [intOf]); (try omega)
end Go.Proofs.Yteoikaedpgianaa
namespace Go.Proofs.Yteoikaedpgianaa
open Go.RowKit Limb

theorem divide_any (m n : Nat) (va vb : Value) (w : World) (ha : NatAt w va m) (hb : NatAt w vb n) (hla : (natL m).length ≤ 50000) (hn : 0 < n) :
    Calls Try.prog 129 #[va, vb] w fun r w' => (∃ q s, r = .returned (.tuple #[q, s]) ∧ NatAt w' q (m / n) ∧ NatAt w' s (m % n)) ∧ Below w.heap.size w w' := by
  rcases Nat.lt_or_ge m n with h | h
  · exact divide_low m n va vb w ha hb h
  · have h1 := length_pos hn
    by_cases h2 : (natL n).length = 1
    · exact divide_short m n va vb w ha hb (by omega) h h2
    · exact divide_long m n ((natL n).length - 1) va vb w ha hb hla h (by omega) (by omega)

/-- the number that a slice of limbs holds -/
def readNat (W : World) : Value → Nat
  | .slice (some a) n _ => match W.heap[a.block]? with
    | some (.cells cs _ _) => val ((cs.toList.take n).map fun v => (intOf v).toNat)
    | _ => 0
  | _ => 0
theorem NatAt.read {W : World} {v : Value} {m : Nat} (h : NatAt W v m) : readNat W v = m := by
  obtain ⟨h1, h2⟩ := h
  rcases h2 with ⟨rfl, h0⟩ | ⟨g, cap, cur, rfl, hg, hr, hn, hc, hs, ht⟩
  · rw [natL_eq_nil.1 (List.eq_nil_of_length_eq_zero h0)]; rfl
  · simp only [readNat, hr]
    rw [Nat.mul_one] at ht
    rw [ht, i64s, List.map_map]
    have : ((fun v => (intOf v).toNat) ∘ fun (x : Nat) => Value.int .i64 (x : Int)) = id := by
      funext x
      simp [intOf]
    rw [this, List.map_id, val_natL]
set_option maxRecDepth 100000 in
set_option maxHeartbeats 800000 in
theorem gcd_any (m n : Nat) (va vb : Value) (w : World) (ha : NatAt w va m) (hb : NatAt w vb n) (hla : (natL m).length ≤ 50000) (hlb : (natL n).length ≤ 50000) :
    Calls Try.prog 128 #[va, vb] w fun r w' => (∃ v, r = .returned v ∧ NatAt w' v (Nat.gcd m n)) ∧ Below w.heap.size w w' := by
  obtain ⟨a, ca, rfl, _, _⟩ := ha.open
  obtain ⟨b, cb, rfl, _, _⟩ := hb.open
  have HA := hid ha
  have HB := hid hb
  have HLA := hid (show ∀ l, l = natL m → l.length ≤ 50000 by rintro l rfl; exact hla)
  have HLB := hid (show ∀ l, l = natL n → l.length ≤ 50000 by rintro l rfl; exact hlb)
  clear ha hb hla hlb
  generalize (natL m).length = p at *
  generalize (natL n).length = q at *
  go_enter Try.func128, Try.ntmps128
  go_wp2_with fail
  go_loopw [0, 1] (fun av bv wr => ∃ (x y : Nat), NatAt wr av x ∧ NatAt wr bv y ∧ Nat.gcd x y = Nat.gcd m n ∧ (natL x).length ≤ 50000 ∧ (natL y).length ≤ 50000 ∧ Below w.heap.size w wr) (fun _ bv wr => readNat wr bv)
  case atStart => exact ⟨m, n, HA.out, HB.out, rfl, HLA.out _ rfl, HLB.out _ rfl, Below.refl _ _⟩
  case round =>
    obtain ⟨x, y, hx, hy, hg, hlx, hly, hB⟩ := hrel
    have HX := hid hx
    have HY := hid hy
    have HG := hid hg
    have HLX := hid hlx
    have HLY := hid (show ∀ l, l = natL y → l.length ≤ 50000 by rintro l rfl; exact hly)
    have HBW := hid hB
    obtain ⟨a', ca', rfl, _, _⟩ := hx.open
    obtain ⟨b', cb', rfl, _, _⟩ := hy.open
    clear hx hy hg hlx hly hB
    rcases Nat.eq_zero_or_pos y with rfl | hy0
    · have hl0 : (natL 0).length = 0 := by rw [natL_zero]; rfl
      rw [hl0] at HY ⊢
      generalize (natL x).length = lx at *
      clear hl0
      go_wp2_with fail
      go_ret
      exact ⟨⟨_, rfl, by have hh := HX.out; rw [← HG.out, Nat.gcd_zero_right]; exact hh⟩, HBW.out⟩
    · have hlp : 0 < (natL y).length := length_pos hy0
      have HRD := hid HY.out.read
      have HDIV := hid (fun w hx hy => divide_any x y (.slice a' (natL x).length ca') (.slice b' (natL y).length cb') w hx hy HLX.out hy0)
      have HMOD := hid (Nat.mod_lt x hy0)
      have HGC := hid (show Nat.gcd y (x % y) = Nat.gcd m n by rw [← HG.out, Nat.gcd_comm x y, Nat.gcd_rec y x, Nat.gcd_comm])
      have HLM := hid (Nat.le_trans (natL_length_mono (Nat.le_of_lt (Nat.mod_lt x hy0))) (HLY.out _ rfl))
      generalize (natL x).length = lx at *
      generalize (natL y).length = ly at *
      go_wp2_with fail
      refine (HDIV.out _ HX.out HY.out).mono ?_
      rintro r w1 ⟨⟨qv, sv, rfl, hq, hs⟩, hb⟩
      have HS := hid hs
      have HY1 := hid (HY.out.grow hb)
      have HB1 := hid (HBW.out.trans (hb.mono HBW.out.size))
      clear hq hs hb
      go_wp2_with fail
      go_roundw
      case rel => exact ⟨y, x % y, HY1.out, HS.out, HGC.out, HLY.out _ rfl, HLM.out, HB1.out⟩
      case measure => rw [HRD.out]; refine Nat.lt_of_le_of_lt (Nat.le_of_eq HS.out.read) HMOD.out
end Go.Proofs.Yteoikaedpgianaa
