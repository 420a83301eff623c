/- The reference's numbers: quotient and remainder of natural numbers. -/
import Derived.Test.YteoikaedpgianaaLimb5
namespace Go.Proofs.Yteoikaedpgianaa
open Go.RowKit Limb

/-- 'append' of a row, or of nothing, to a row of one's own -/
theorem wpList_append_rows {P : Program} (w : World) {ops : Array Oper} {rest : List Oper} {o : Oper} {a : Act} {Q : Exit → Act → World → Prop} (hgd : o.guard = none) (s x : Operand) (t : TypeId)
    (ho : o.op = .call { callee := .builtin .append, args := #[s, x], argTypes := #[t, t] })
    (base : Nat) (e : TypeId) (i : TypeInfo) (z : Value) (bytes : Nat) (ht : P.underlying t = some (.slice e)) (hi : P.info? e = some i) (hz : i.zero = some z)
    (hsize : i.size = 1) (hby : i.bytes = bytes) (hzs : z.cells.size = 1)
    (v : Value) (n : Nat) (xs : List Value) (hs : a.eval s = v) (hown : w.ownsRow base e 1 v n xs)
    (B2 m : Nat) (vx : Value) (news : List Value) (hx : a.eval x = vx) (hnx : w.ownsRow B2 e 1 vx m news) (h1 : ∀ u ∈ news, u.oneCell' = true)
    (h63 : n + m ≤ maxLen) (hbytes : (n + m) * bytes ≤ 140737488355328) (hbase : base ≤ w.heap.size)
    (h : ∀ v' w', w'.ownsRow base e 1 v' (n + m) (xs ++ news) → w.grownBy w' v.ownBlock → wpList P ops Q rest (a.put o.dst v') w') : wpList P ops Q (o :: rest) a w := by
  rcases hnx.2 with ⟨hv, hm⟩ | ⟨g, cap, cur, hv, hg, hr, h3⟩
  · subst hm
    have hnil : news = [] := by
      have := hnx.1
      simpa using this
    subst hnil
    refine wpList_plain hgd fun K hK => ?_
    have hr := run_append_owned_none (P := P) w base t o.type e i 1 ht hi v n xs hown
    unfold Oper.wp execOp
    simp only [ho, resolve, invoke, builtin, Sem.run_bind, Sem.run_pure, Result.andThen_ok, List.map_toArray, List.map_cons, List.map_nil, hs, hx, hv, hr]
    exact hK _ _ (h v w (by simpa using hown) (World.grownBy.refl _ _))
  · refine wpList_append_own w hgd s x t ho base e i z 1 bytes ht hi hz hsize hby hzs (by decide) v n xs hs hown ⟨g, 0, none⟩ m cap news (hx.trans hv) hnx.1 (hnx.cells (by rw [hv]; rfl)) h1 h63 hbytes hbase (fun v' w' h4 h5 _ => h v' w' h4 h5)

theorem field33_0 (b : Bool) (v : Value) (W : World) : (Instr.field 33 (.agg #[.bool b, v]) 0).run Try.prog W = .ok (.bool b) W := by kernel_rfl
theorem field33_1 (b : Bool) (a : Option Addr) (n c : Nat) (W : World) : (Instr.field 33 (.agg #[.bool b, .slice a n c]) 1).run Try.prog W = .ok (.slice a n c) W := by kernel_rfl
set_option maxRecDepth 100000 in
set_option maxHeartbeats 800000 in
theorem divide_low (m n : Nat) (va vb : Value) (w : World) (ha : NatAt w va m) (hb : NatAt w vb n) (hmn : m < n) :
    Calls Try.prog 129 #[va, vb] w fun r w' => (∃ q s, r = .returned (.tuple #[q, s]) ∧ NatAt w' q (m / n) ∧ NatAt w' s (m % n)) ∧ Below w.heap.size w w' := by
  have HC := hid (compare_any m n va vb w ha hb)
  have hv : cmpV m n = -1 := by unfold cmpV; rw [if_pos hmn]
  have HM := hid hmn
  rw [hv] at HC
  have HNA := hid ha
  obtain ⟨a, ca, rfl, hsa, hra⟩ := ha.open
  obtain ⟨b, cb, rfl, hsb, hrb⟩ := hb.open
  clear hmn hv hra hrb hsa hsb
  generalize (natL m).length = p at *
  generalize (natL n).length = q at *
  go_enter Try.func129, Try.ntmps129
  go_wp2_with fail
  refine HC.out.mono ?_
  rintro r w1 ⟨rfl, hb1⟩
  have HB1 := hid hb1
  clear hb1
  go_wp2_with fail
  go_ret2
  refine ⟨⟨_, _, rfl, ?_, ?_⟩, HB1.out⟩
  · rw [Nat.div_eq_of_lt HM.out]; unfold NatAt; rw [natL_zero]; exact World.ownsRow_nil _ _ _ _
  · rw [Nat.mod_eq_of_lt HM.out]; exact HNA.out.grow HB1.out

set_option maxRecDepth 100000 in
set_option maxHeartbeats 800000 in
theorem divide_short (m n : Nat) (va vb : Value) (w : World) (ha : NatAt w va m) (hb : NatAt w vb n) (hla : (natL m).length ≤ 100000) (hmn : n ≤ m) (hl : (natL n).length = 1) :
    Calls Try.prog 129 #[va, vb] w fun r w' => (∃ q s, r = .returned (.tuple #[q, s]) ∧ NatAt w' q (m / n) ∧ NatAt w' s (m % n)) ∧ Below w.heap.size w w' := by
  have HC := hid (compare_any m n va vb w ha hb)
  have hv : 0 ≤ cmpV m n := by unfold cmpV; rw [if_neg (by omega)]; split <;> decide
  have hn : n < 65536 := by have := natL_length_le.1 (Nat.le_of_eq hl); simpa using this
  have hn0 : 0 < n := by
    rcases Nat.eq_zero_or_pos n with rfl | h
    · rw [natL_zero] at hl; cases hl
    · exact h
  generalize cmpV m n = cv at *
  have HNA := hid ha
  have HLA := hid hla
  obtain ⟨a, ca, rfl, hsa, hra⟩ := ha.open
  obtain ⟨b, cb, rfl, hsb, hrb⟩ := hb.open
  rw [hl] at HC hrb ⊢
  have HB0 := hid (fun W' hW' => hrb W' hW' 0 (by decide))
  clear hmn hra hrb hsa hsb hl hla
  obtain ⟨p, hp⟩ : ∃ p, (natL m).length = p := ⟨_, rfl⟩
  rw [hp] at HC HNA ⊢
  have hpl := HLA.out
  rw [hp] at hpl
  clear hp
  go_enter Try.func129, Try.ntmps129
  go_wp2_with fail
  refine HC.out.mono ?_
  rintro r w1 ⟨rfl, hb1⟩
  have HB1 := hid hb1
  obtain ⟨g, rfl, hg, hcb⟩ := HB0.out w1 hb1
  simp only [Nat.pow_zero, Nat.div_one, Nat.mod_eq_of_lt hn] at hcb
  clear hb1
  go_wp2_with fail
  refine (short_any m n _ w1 (HNA.out.grow HB1.out) HLA.out hn0 hn).mono ?_
  rintro r w2 ⟨⟨vq, rfl, hq⟩, hb2⟩
  have HQ := hid hq
  have HB2 := hid (HB1.out.trans (hb2.mono HB1.out.size))
  have HMOD := hid (Nat.mod_lt m hn0)
  generalize hmd : m % n = md at *
  have HMD := hid hmd
  clear hq hb2
  go_wp2_with fail
  refine (small_any (md : Int) w2 (by have := HMOD.out; omega)).mono ?_
  rintro r w3 ⟨⟨vr, rfl, hr⟩, hb3⟩
  have HB3 := hid (HB2.out.trans (hb3.mono HB2.out.size))
  have HQ3 := hid (HQ.out.grow hb3)
  have HR := hid hr
  obtain ⟨ar, car, rfl, _, _⟩ := own_open hr
  have hfd := field33_1
  clear hr hb3 hmd
  go_wp2_with fail
  go_ret2
  rw [HMD.out]
  exact ⟨⟨_, _, rfl, HQ3.out.at, by have hh := HR.out.at; simp only [Int.natAbs_natCast] at hh; exact hh⟩, HB3.out⟩
end Go.Proofs.Yteoikaedpgianaa
