/- Texts of the seat Ytpablkmdpoombaa, turned to this one by wip/port.py: DelM Unp Byt. -/
import Derived.Test.YtpfighhhemnhaaaGreatA
import Derived.Test.YtpfighhhemnhaaaGreatB
import Derived.Test.YtpfighhhemnhaaaGreatC
import Derived.Test.YtpfighhhemnhaaaGreatD
import Derived.Test.YtpfighhhemnhaaaGreatE
/- DelM -/
namespace Go.Proofs.YtpfighhhemnhaaaGreat
open Go.RowKit

/-- one point read by the plant -/
def ptY (l : Int) (s : St) : Pt × St :=
  let r0 := nextS false s
  let r1 := nextS true r0.2
  let r2 := nextS true r1.2
  let r3 := nextS true r2.2
  let r4 := nextS false r3.2
  let r5 := nextS false r4.2
  let r6 := nextS false r5.2
  let r7 := nextS false r6.2
  let r8 := nextS false r7.2
  (⟨l + r0.1, r1.1, r2.1, r3.1, r3.1 + r4.1, r5.1, r6.1, r7.1, r8.1⟩, if 1152921504606846976 < l + r0.1 ∨ 268435456 < r3.1 + r4.1 then r8.2.mark else r8.2)
def ptsY : Nat → Int → St → List Pt × St
  | 0, _, s => ([], s)
  | f + 1, l, s => if (ptY l s).2.bad = true then ([], (ptY l s).2) else ((ptY l s).1 :: (ptsY f (ptY l s).1.id (ptY l s).2).1, (ptsY f (ptY l s).1.id (ptY l s).2).2)
theorem ptsY_bad {f : Nat} {l : Int} {s : St} {p : Pt} {s' : St} (hp : ptY l s = (p, s')) (h : s'.bad = true) : ptsY (f + 1) l s = ([], s') := by
  show (if (ptY l s).2.bad = true then _ else _) = _
  rw [hp, if_pos h]
theorem ptsY_next {f : Nat} {l : Int} {s : St} {p : Pt} {s' : St} (hp : ptY l s = (p, s')) (h : s'.bad = false) : ptsY (f + 1) l s = (p :: (ptsY f p.id s').1, (ptsY f p.id s').2) := by
  show (if (ptY l s).2.bad = true then _ else _) = _
  rw [hp, if_neg (by simp [h])]
def delY (s : St) : List Pt × St := ptsY (nextS false s).1.toNat 0 (nextS false s).2
def Asc (P : List Pt) : Prop := P.Pairwise (fun p q => p.id < q.id)
/-- the bytes of a delivery ahead of its checksum -/
def encDB (P : List Pt) : List Nat := encs encU [(P.length : Int)] ++ encPs 0 P
def encD (P : List Pt) : List Nat := encDB P ++ bytes4 (crcL (encDB P))

theorem asc_of {P : List Pt} (h : P.Pairwise (fun p q => p.id ≤ q.id)) (hg : goodL P = true) : Asc P := by
  have h2 := ((goodL_iff P).1 hg).2.2
  exact (h.and h2).imp (fun ⟨a, b⟩ => by omega)
theorem ptY_inv {l : Int} {b : List Nat} {p : Pt} {s' : St} (hl : ∀ x ∈ b, x < 256) (h : ptY l (stL b) = (p, s')) (hb : s'.bad = false) :
    ∃ r, b = encP l p ++ r ∧ s' = stL r ∧ (∀ x ∈ r, x < 256) ∧ l ≤ p.id := by
  rcases e0 : nextS false (stL b) with ⟨v0, t1⟩
  rcases e1 : nextS true t1 with ⟨v1, t2⟩
  rcases e2 : nextS true t2 with ⟨v2, t3⟩
  rcases e3 : nextS true t3 with ⟨v3, t4⟩
  rcases e4 : nextS false t4 with ⟨v4, t5⟩
  rcases e5 : nextS false t5 with ⟨v5, t6⟩
  rcases e6 : nextS false t6 with ⟨v6, t7⟩
  rcases e7 : nextS false t7 with ⟨v7, t8⟩
  rcases e8 : nextS false t8 with ⟨v8, t9⟩
  have q0 := nextU_range (stL b)
  rw [e0] at q0
  simp only at q0
  unfold ptY at h
  simp only [e0, e1, e2, e3, e4, e5, e6, e7, e8] at h
  injection h with hp hs
  have b9 : t9.bad = false ∧ s' = t9 := by
    by_cases hbig : 1152921504606846976 < l + v0 ∨ 268435456 < v3 + v4
    · rw [if_pos hbig] at hs
      subst hs
      exact absurd hb (by simp [St.mark])
    · rw [if_neg hbig] at hs
      subst hs
      exact ⟨hb, rfl⟩
  have b8 := next_keep e8 b9.1
  have b7 := next_keep e7 b8
  have b6 := next_keep e6 b7
  have b5 := next_keep e5 b6
  have b4 := next_keep e4 b5
  have b3 := next_keep e3 b4
  have b2 := next_keep e2 b3
  have b1 := next_keep e1 b2
  obtain ⟨r0, q0', rfl, k0⟩ := nextU_inv hl e0 b1
  obtain ⟨r1, q1, rfl, k1⟩ := nextI_inv k0 e1 b2
  obtain ⟨r2, q2, rfl, k2⟩ := nextI_inv k1 e2 b3
  obtain ⟨r3, q3, rfl, k3⟩ := nextI_inv k2 e3 b4
  obtain ⟨r4, q4, rfl, k4⟩ := nextU_inv k3 e4 b5
  obtain ⟨r5, q5, rfl, k5⟩ := nextU_inv k4 e5 b6
  obtain ⟨r6, q6, rfl, k6⟩ := nextU_inv k5 e6 b7
  obtain ⟨r7, q7, rfl, k7⟩ := nextU_inv k6 e7 b8
  obtain ⟨r8, q8, rfl, k8⟩ := nextU_inv k7 e8 b9.1
  refine ⟨r8, ?_, b9.2, k8, by rw [← hp]; show l ≤ l + v0; omega⟩
  rw [encP_list, ← hp]
  simp only
  rw [show l + v0 - l = v0 by omega, show v3 + v4 - v3 = v4 by omega, ← q8, ← q7, ← q6, ← q5, ← q4, ← q3, ← q2, ← q1, ← q0']
theorem ptsY_inv : ∀ (f : Nat) (l : Int) (b : List Nat), (∀ x ∈ b, x < 256) → (ptsY f l (stL b)).2.bad = false →
    ∃ r, b = encPs l (ptsY f l (stL b)).1 ++ r ∧ (ptsY f l (stL b)).2 = stL r ∧ (ptsY f l (stL b)).1.length = f ∧ (∀ p ∈ (ptsY f l (stL b)).1, l ≤ p.id) ∧ (ptsY f l (stL b)).1.Pairwise (fun p q => p.id ≤ q.id)
  | 0, _, b, _, _ => ⟨b, rfl, rfl, rfl, fun p hp => by simp [ptsY] at hp, List.Pairwise.nil⟩
  | f + 1, l, b, hl, hb => by
    rcases hp : ptY l (stL b) with ⟨p, s'⟩
    cases hs : s'.bad with
    | true =>
      rw [ptsY_bad hp hs] at hb
      exact absurd (hb.symm.trans hs) (by decide)
    | false =>
      rw [ptsY_next hp hs] at hb ⊢
      obtain ⟨r, h1, h2, h3, h0⟩ := ptY_inv hl hp hs
      rw [h2] at hb ⊢
      obtain ⟨r', h4, h5, h6, h7, h8⟩ := ptsY_inv f p.id r h3 hb
      refine ⟨r', ?_, h5, by simp [h6], ?_, List.pairwise_cons.2 ⟨h7, h8⟩⟩
      · show b = (encP l p ++ encPs p.id _) ++ r'
        rw [List.append_assoc, ← h4]
        exact h1
      · intro q hq
        rcases List.mem_cons.1 hq with rfl | hq
        · exact h0
        · have := h7 q hq
          omega
theorem ptY_back {l : Int} {p : Pt} (h : NumP l p) (r : List Nat) : ptY l (stL (encP l p ++ r)) = (p, stL r) := by
  rw [encP_list]
  have a0 := next_back (p.id - l) (encS p.x ++ (encS p.y ++ (encS p.zl ++ (encU (p.zh - p.zl) ++ (encU p.wd ++ (encU p.nm ++ (encU p.of ++ (encU p.cl ++ r)))))))) (by have := h.id; omega)
  have a1 := nextS_back p.x (encS p.y ++ (encS p.zl ++ (encU (p.zh - p.zl) ++ (encU p.wd ++ (encU p.nm ++ (encU p.of ++ (encU p.cl ++ r))))))) (by have := h.x; omega)
  have a2 := nextS_back p.y (encS p.zl ++ (encU (p.zh - p.zl) ++ (encU p.wd ++ (encU p.nm ++ (encU p.of ++ (encU p.cl ++ r)))))) (by have := h.y; omega)
  have a3 := nextS_back p.zl (encU (p.zh - p.zl) ++ (encU p.wd ++ (encU p.nm ++ (encU p.of ++ (encU p.cl ++ r))))) (by have := h.z; omega)
  have a4 := next_back (p.zh - p.zl) (encU p.wd ++ (encU p.nm ++ (encU p.of ++ (encU p.cl ++ r)))) (by have := h.z; have := h.h; omega)
  have a5 := next_back p.wd (encU p.nm ++ (encU p.of ++ (encU p.cl ++ r))) (by have := h.wd; omega)
  have a6 := next_back p.nm (encU p.of ++ (encU p.cl ++ r)) (by have := h.nm; omega)
  have a7 := next_back p.of (encU p.cl ++ r) (by have := h.of; omega)
  have a8 := next_back p.cl r (by have := h.cl; omega)
  unfold ptY
  simp only [a0, a1, a2, a3, a4, a5, a6, a7, a8]
  have e1 : l + (p.id - l) = p.id := by omega
  have e2 : p.zl + (p.zh - p.zl) = p.zh := by omega
  rw [e1, e2, if_neg (by have := h.i; have := h.h; omega)]
theorem ptsY_back : ∀ (l : Int) (P : List Pt), NumF l P → ∀ r, ptsY P.length l (stL (encPs l P ++ r)) = (P, stL r)
  | _, [], _, r => rfl
  | l, p :: P, h, r => by
    have h1 := ptY_back h.1 (encPs p.id P ++ r)
    have h2 := ptsY_next (f := P.length) h1 (stL_bad _)
    rw [show encPs l (p :: P) ++ r = encP l p ++ (encPs p.id P ++ r) from List.append_assoc _ _ _, List.length_cons, h2, ptsY_back p.id P h.2 r]
theorem encDB_list (P : List Pt) (r : List Nat) : encDB P ++ r = encU (P.length : Int) ++ (encPs 0 P ++ r) := by simp [encDB, encs]
theorem good_numF {P : List Pt} (hg : goodL P = true) (ha : Asc P) : NumF 0 P := numF_of 0 P (nums_ok hg ha)
theorem delY_back {P : List Pt} (hg : goodL P = true) (ha : Asc P) (r : List Nat) : nextS false (stL (encDB P ++ r)) = ((P.length : Int), stL (encPs 0 P ++ r)) ∧ delY (stL (encDB P ++ r)) = (P, stL r) := by
  rw [encDB_list]
  have hl := ((goodL_iff P).1 hg).1
  have a4 := next_back (P.length : Int) (encPs 0 P ++ r) (by omega)
  refine ⟨a4, ?_⟩
  unfold delY
  rw [a4]
  simp only
  rw [Int.toNat_natCast, ptsY_back 0 P (good_numF hg ha) r]
/-- what the plant accepts -/
def OkY (l : List Nat) (n : Nat) : Prop := SumOk l n ∧ (nextS false (stL (l.take n))).1 ≤ 1024 ∧ (delY (stL (l.take n))).2.bad = false ∧ (delY (stL (l.take n))).2.m = 0 ∧ goodL (delY (stL (l.take n))).1 = true
theorem delY_inv {b : List Nat} (hl : ∀ x ∈ b, x < 256) (hb : (delY (stL b)).2.bad = false) (hm : (delY (stL b)).2.m = 0) : b = encDB (delY (stL b)).1 ∧ (delY (stL b)).1.Pairwise (fun p q => p.id ≤ q.id) := by
  rcases e0 : nextS false (stL b) with ⟨v0, t1⟩
  have q0 := nextU_range (stL b)
  rw [e0] at q0
  simp only at q0
  have hx : delY (stL b) = ptsY v0.toNat 0 t1 := by unfold delY; rw [e0]
  rw [hx] at hb hm ⊢
  have b1 : t1.bad = false := by
    cases hs : t1.bad with
    | false => rfl
    | true =>
      cases hn : v0.toNat with
      | zero =>
        rw [hn] at hb
        exact absurd (hb.symm.trans hs) (by decide)
      | succ f =>
        rcases hp : ptY 0 t1 with ⟨p, s'⟩
        have hs' : s'.bad = true := by
          have k1 := nextS_keeps false _ hs
          have k2 := nextS_keeps true _ k1
          have k3 := nextS_keeps true _ k2
          have k4 := nextS_keeps true _ k3
          have k5 := nextS_keeps false _ k4
          have k6 := nextS_keeps false _ k5
          have k7 := nextS_keeps false _ k6
          have k8 := nextS_keeps false _ k7
          have k9 := nextS_keeps false _ k8
          have h2 := congrArg (fun x => x.2.bad) hp
          simp only at h2
          rw [← h2]
          unfold ptY
          simp only
          split
          · rfl
          · exact k9
        rw [hn, ptsY_bad hp hs'] at hb
        exact absurd (hb.symm.trans hs') (by decide)
  obtain ⟨r0, q0', rfl, k0⟩ := nextU_inv hl e0 b1
  obtain ⟨r, h1, h2, h3, _, h5⟩ := ptsY_inv v0.toNat 0 r0 k0 hb
  rw [h2] at hm
  have hr : r = [] := List.length_eq_zero_iff.1 hm
  subst hr
  refine ⟨?_, h5⟩
  have he := encDB_list (ptsY v0.toNat 0 (stL r0)).1 []
  rw [List.append_nil] at he
  rw [he, h3, show ((v0.toNat : Nat) : Int) = v0 by omega, ← h1]
  exact q0'
theorem okY_iff {l : List Nat} (hl : ∀ x ∈ l, x < 256) {n : Nat} (hn : l.length = n + 4) {P : List Pt} : (OkY l n ∧ (delY (stL (l.take n))).1 = P) ↔ (goodL P = true ∧ Asc P ∧ l = encD P) := by
  constructor
  · rintro ⟨⟨h1, _, h2, h3, h4⟩, rfl⟩
    have h5 := delY_inv (fun x hx => hl x (List.mem_of_mem_take hx)) h2 h3
    refine ⟨h4, asc_of h5.2 h4, ?_⟩
    have h6 := (sumOk_iff hl hn).1 h1
    unfold encD
    rw [← h5.1]
    exact h6
  · rintro ⟨h1, h0, h2⟩
    have hlen : n = (encDB P).length := by
      have : l.length = (encDB P).length + 4 := by rw [h2]; simp [encD, bytes4]
      omega
    have htake : l.take n = encDB P := by
      rw [h2, hlen]
      exact List.take_left
    have hb := delY_back h1 h0 []
    rw [List.append_nil] at hb
    have hl4 := ((goodL_iff P).1 h1).1
    refine ⟨⟨(sumOk_iff hl hn).2 ?_, ?_, ?_, ?_, ?_⟩, ?_⟩
    · rw [htake]; exact h2
    · rw [htake, hb.1]; show (P.length : Int) ≤ 1024; omega
    · rw [htake, hb.2]; rfl
    · rw [htake, hb.2]; rfl
    · rw [htake, hb.2]; exact h1
    · rw [htake, hb.2]
theorem encD_long (P : List Pt) : 5 ≤ (encD P).length := by
  have h0 := encN_pos P.length
  have h : encDB P = encN (P.length : Int).toNat ++ encPs 0 P := by simp [encDB, encs, encU]
  unfold encD
  rw [h]
  simp [bytes4]
  omega
theorem encDB_byte (P : List Pt) : ∀ x ∈ encDB P, x < 256 := app_byte (encs_byte encU_byte _) (encPs_byte _ _)
theorem encD_byte (P : List Pt) : ∀ x ∈ encD P, x < 256 := app_byte (encDB_byte _) (by intro x hx; simp [bytes4] at hx; omega)
theorem encDB_len {P : List Pt} (hg : goodL P = true) (ha : Asc P) : 0 < (encDB P).length ∧ (encDB P).length ≤ 90000 := by
  have hl := ((goodL_iff P).1 hg).1
  have h1 := encPs_len (nums_ok hg ha) P.length (Nat.le_refl _)
  rw [List.take_length] at h1
  have h3 := encs_len (f := encU) (m := 9) [(P.length : Int)] (fun z hz => nat_len (by simp at hz; omega))
  have h4 := encD_long P
  simp at h3
  unfold encD at h4
  unfold encDB at *
  simp [bytes4] at h4 ⊢
  omega
end Go.Proofs.YtpfighhhemnhaaaGreat

/- Unp -/
namespace Go.Proofs.YtpfighhhemnhaaaGreat
open Go.RowKit

set_option maxRecDepth 100000 in
theorem take_num (rb b : Nat) (s : St) (w : World) (h : RdAt w rb 200 b s) :
    Calls Tryz.prog 137 #[.pointer (some ⟨rb, 0, none⟩), .func (.func 138) #[] #[]] w fun r w' => r = .returned (.int .i64 (nextS false s).1) ∧ RdAt w' rb 200 b (nextS false s).2 ∧ Only rb w.heap.size w w' := by
  have HR0 := hid h
  obtain ⟨o, c, hr, hm, hc, hb, hne, hg, hbw⟩ := h
  have HCALL := hid (xRead_any b o s.m c s.g w (by omega) hg hb)
  have HRD := hid hr
  have hc0 : w.cell? ⟨rb, 0, none⟩ = some (.slice (some ⟨b, o, none⟩) s.m c) := by simp [World.cell?, hr]
  have hf0 : w.frozen? ⟨rb, 0, none⟩ = false := by simp [World.frozen?, hr]
  have hf1 : w.frozen? ⟨rb, 1, none⟩ = false := by simp [World.frozen?, hr]
  cases hsb : s.bad
  · have hc1 : w.cell? ⟨rb, 1, none⟩ = some (.bool false) := by simp [World.cell?, hr, hsb]
    by_cases he : (readV s.g s.m).2.2 = 0
    · have hsz := readV_size s.g s.m he
      obtain ⟨k, hk⟩ : ∃ k : Nat, (readV s.g s.m).2.1 = k := ⟨(readV s.g s.m).2.1.toNat, by omega⟩
      have hkm : k ≤ s.m := by omega
      have HN := hid (nextS_good (sg := false) he hsb hk)
      have HI := hid (show int3 (readV s.g s.m) = .tuple #[.int .i64 ((readV s.g s.m)).1, .int .i64 k, .int .i64 0] by first | (rw [int3_eq, (signV_size _).1, (signV_size _).2 he, he, hk]) | (rw [int3_eq, he, hk]))
      have HB := hid hb
      have HG := hid hg
      have HBD := hid hsb
      clear hb hg he hk hsz hr hsb HR0
      by_cases hck : k < c
      · go_enter Tryz.func137, Tryz.ntmps137
        go_wp2_with fail
        refine HCALL.out.mono ?_
        rintro r w1 ⟨rfl, rfl⟩
        rw [HI.out]
        go_wp2_with fail
        all_goals first | (exfalso; omega) | skip
        go_ret
        rw [HN.out]
        have hol := only_setCell (j := 0) (Only.refl rb w.heap.size w) (.slice (some ⟨b, o + k, none⟩) (s.m - k) (c - k))
        exact ⟨rfl, rd_after hol hm hc HB.out hne HG.out hbw hkm (Or.inl rfl) (heap_setCell HRD.out _), hol⟩
      · have hcm : c = s.m := by omega
        have hkm2 : k = s.m := by omega
        subst hcm hkm2
        clear hck
        go_enter Tryz.func137, Tryz.ntmps137
        go_wp2_with fail
        refine HCALL.out.mono ?_
        rintro r w1 ⟨rfl, rfl⟩
        rw [HI.out]
        go_wp2_with fail
        go_ret
        rw [HN.out]
        have hol := only_setCell (j := 0) (Only.refl rb w.heap.size w) (.slice (some ⟨b, o, none⟩) 0 0)
        exact ⟨rfl, rd_after hol hm hc HB.out hne HG.out hbw hkm (Or.inr (Nat.sub_self _)) (by rw [Nat.sub_self]; exact heap_setCell HRD.out _), hol⟩
    · have HN := hid (nextS_bad (sg := false) (s := s) (fun x => he x.1))
      have HI := hid (show int3 (readV s.g s.m) = .tuple #[.int .i64 ((readV s.g s.m)).1, .int .i64 ((readV s.g s.m)).2.1, .int .i64 ((readV s.g s.m)).2.2] from rfl)
      have hse : ((readV s.g s.m)).2.2 ≠ 0 := by first | exact he | (rw [(signV_size _).1]; exact he)
      have hb2 : (((readV s.g s.m)).2.2 == 0) = false := beq_false_of_ne hse
      have HB := hid hb
      have HG := hid hg
      clear hb hg he hsb hse HR0 hr
      go_enter Tryz.func137, Tryz.ntmps137
      go_wp2_with fail
      refine HCALL.out.mono ?_
      rintro r w1 ⟨rfl, rfl⟩
      rw [HI.out]
      generalize (readV s.g s.m) = V at *
      obtain ⟨V1, V2, V3⟩ := V
      simp only at hb2
      go_wp2_with fail
      go_ret
      rw [HN.out]
      have hol := only_setCell (j := 1) (Only.refl rb w.heap.size w) (.bool true)
      exact ⟨rfl, ⟨o, c, heap_setCell HRD.out _, hm, hc, bytes_only HB.out hol (fun h => hne h.symm) hbw, hne, HG.out, Nat.lt_of_lt_of_le hbw hol.size⟩, hol⟩
  · have hc1 : w.cell? ⟨rb, 1, none⟩ = some (.bool true) := by simp [World.cell?, hr, hsb]
    have HN := hid (show nextS false s = (0, s) by
      rw [nextS_bad (fun x => by rw [hsb] at x; exact Bool.noConfusion x.2)]
      obtain ⟨g, m, bd⟩ := s
      simp only at hsb
      subst hsb
      rfl)
    clear hb hg hsb hr
    go_enter Tryz.func137, Tryz.ntmps137
    go_wp2_with fail
    go_ret
    rw [HN.out]
    exact ⟨rfl, HR0.out, Only.refl _ _ _⟩
set_option maxRecDepth 100000 in
theorem unum_at {rb b : Nat} {s s' : St} {v : Int} (w : World) (hn : nextS false s = (v, s')) (h : RdAt w rb 200 b s) :
    Calls Tryz.prog 79 #[.pointer (some ⟨rb, 0, none⟩)] w fun r w' => r = .returned (.int .i64 v) ∧ RdAt w' rb 200 b s' ∧ Only rb w.heap.size w w' := by
  have HT := hid (take_num rb b s w h)
  rw [hn] at HT
  clear hn h
  go_enter Tryz.func79, Tryz.ntmps79
  go_wp2_with fail
  refine HT.out.mono ?_
  rintro r w1 ⟨rfl, hrd, hol⟩
  have HA := hid hrd
  have HO := hid hol
  clear hrd hol
  go_wp2_with fail
  go_ret
  exact ⟨rfl, HA.out, HO.out⟩
set_option maxRecDepth 100000 in
theorem take_sig (rb b : Nat) (s : St) (w : World) (h : RdAt w rb 200 b s) :
    Calls Tryz.prog 137 #[.pointer (some ⟨rb, 0, none⟩), .func (.func 224) #[] #[]] w fun r w' => r = .returned (.int .i64 (nextS true s).1) ∧ RdAt w' rb 200 b (nextS true s).2 ∧ Only rb w.heap.size w w' := by
  have HR0 := hid h
  obtain ⟨o, c, hr, hm, hc, hb, hne, hg, hbw⟩ := h
  have HCALL := hid (xSigned_any b o s.m c s.g w (by omega) hg hb)
  have HRD := hid hr
  have hc0 : w.cell? ⟨rb, 0, none⟩ = some (.slice (some ⟨b, o, none⟩) s.m c) := by simp [World.cell?, hr]
  have hf0 : w.frozen? ⟨rb, 0, none⟩ = false := by simp [World.frozen?, hr]
  have hf1 : w.frozen? ⟨rb, 1, none⟩ = false := by simp [World.frozen?, hr]
  cases hsb : s.bad
  · have hc1 : w.cell? ⟨rb, 1, none⟩ = some (.bool false) := by simp [World.cell?, hr, hsb]
    by_cases he : (readV s.g s.m).2.2 = 0
    · have hsz := readV_size s.g s.m he
      obtain ⟨k, hk⟩ : ∃ k : Nat, (readV s.g s.m).2.1 = k := ⟨(readV s.g s.m).2.1.toNat, by omega⟩
      have hkm : k ≤ s.m := by omega
      have HN := hid (nextS_good (sg := true) he hsb hk)
      have HI := hid (show int3 (signV (readV s.g s.m)) = .tuple #[.int .i64 ((signV (readV s.g s.m))).1, .int .i64 k, .int .i64 0] by first | (rw [int3_eq, (signV_size _).1, (signV_size _).2 he, he, hk]) | (rw [int3_eq, he, hk]))
      have HB := hid hb
      have HG := hid hg
      have HBD := hid hsb
      clear hb hg he hk hsz hr hsb HR0
      by_cases hck : k < c
      · go_enter Tryz.func137, Tryz.ntmps137
        go_wp2_with fail
        refine HCALL.out.mono ?_
        rintro r w1 ⟨rfl, rfl⟩
        rw [HI.out]
        go_wp2_with fail
        all_goals first | (exfalso; omega) | skip
        go_ret
        rw [HN.out]
        have hol := only_setCell (j := 0) (Only.refl rb w.heap.size w) (.slice (some ⟨b, o + k, none⟩) (s.m - k) (c - k))
        exact ⟨rfl, rd_after hol hm hc HB.out hne HG.out hbw hkm (Or.inl rfl) (heap_setCell HRD.out _), hol⟩
      · have hcm : c = s.m := by omega
        have hkm2 : k = s.m := by omega
        subst hcm hkm2
        clear hck
        go_enter Tryz.func137, Tryz.ntmps137
        go_wp2_with fail
        refine HCALL.out.mono ?_
        rintro r w1 ⟨rfl, rfl⟩
        rw [HI.out]
        go_wp2_with fail
        go_ret
        rw [HN.out]
        have hol := only_setCell (j := 0) (Only.refl rb w.heap.size w) (.slice (some ⟨b, o, none⟩) 0 0)
        exact ⟨rfl, rd_after hol hm hc HB.out hne HG.out hbw hkm (Or.inr (Nat.sub_self _)) (by rw [Nat.sub_self]; exact heap_setCell HRD.out _), hol⟩
    · have HN := hid (nextS_bad (sg := true) (s := s) (fun x => he x.1))
      have HI := hid (show int3 (signV (readV s.g s.m)) = .tuple #[.int .i64 ((signV (readV s.g s.m))).1, .int .i64 ((signV (readV s.g s.m))).2.1, .int .i64 ((signV (readV s.g s.m))).2.2] from rfl)
      have hse : ((signV (readV s.g s.m))).2.2 ≠ 0 := by first | exact he | (rw [(signV_size _).1]; exact he)
      have hb2 : (((signV (readV s.g s.m))).2.2 == 0) = false := beq_false_of_ne hse
      have HB := hid hb
      have HG := hid hg
      clear hb hg he hsb hse HR0 hr
      go_enter Tryz.func137, Tryz.ntmps137
      go_wp2_with fail
      refine HCALL.out.mono ?_
      rintro r w1 ⟨rfl, rfl⟩
      rw [HI.out]
      generalize (signV (readV s.g s.m)) = V at *
      obtain ⟨V1, V2, V3⟩ := V
      simp only at hb2
      go_wp2_with fail
      go_ret
      rw [HN.out]
      have hol := only_setCell (j := 1) (Only.refl rb w.heap.size w) (.bool true)
      exact ⟨rfl, ⟨o, c, heap_setCell HRD.out _, hm, hc, bytes_only HB.out hol (fun h => hne h.symm) hbw, hne, HG.out, Nat.lt_of_lt_of_le hbw hol.size⟩, hol⟩
  · have hc1 : w.cell? ⟨rb, 1, none⟩ = some (.bool true) := by simp [World.cell?, hr, hsb]
    have HN := hid (show nextS true s = (0, s) by
      rw [nextS_bad (fun x => by rw [hsb] at x; exact Bool.noConfusion x.2)]
      obtain ⟨g, m, bd⟩ := s
      simp only at hsb
      subst hsb
      rfl)
    clear hb hg hsb hr
    go_enter Tryz.func137, Tryz.ntmps137
    go_wp2_with fail
    go_ret
    rw [HN.out]
    exact ⟨rfl, HR0.out, Only.refl _ _ _⟩
set_option maxRecDepth 100000 in
theorem usig_at {rb b : Nat} {s s' : St} {v : Int} (w : World) (hn : nextS true s = (v, s')) (h : RdAt w rb 200 b s) :
    Calls Tryz.prog 139 #[.pointer (some ⟨rb, 0, none⟩)] w fun r w' => r = .returned (.int .i64 v) ∧ RdAt w' rb 200 b s' ∧ Only rb w.heap.size w w' := by
  have HT := hid (take_sig rb b s w h)
  rw [hn] at HT
  clear hn h
  go_enter Tryz.func139, Tryz.ntmps139
  go_wp2_with fail
  refine HT.out.mono ?_
  rintro r w1 ⟨rfl, hrd, hol⟩
  have HA := hid hrd
  have HO := hid hol
  clear hrd hol
  go_wp2_with fail
  go_ret
  exact ⟨rfl, HA.out, HO.out⟩
/-- a region that reads a number and stores the sum of a field and of it: what holds of it, in any order -/
structure AddR (w : World) (rb b pb B : Nat) (s s' : St) (ws : List Value) (C C' : Array Value) (L : Nat → Bool) (us : Nat → Value) (W : World) : Prop where
  only : Only rb B w W
  vals : ∀ j, j < 8 → L j = true → us j = ws.getD j undef
  rd : RdAt W rb 200 b (if L 4 = true then s' else s)
  row : W.heap[pb]? = some (.cells (if L 8 = true then C' else C) 109)
theorem AddR.pure {w W : World} {rb b pb B k : Nat} {s s' : St} {ws : List Value} {C C' : Array Value} {L : Nat → Bool} {us : Nat → Value} {v : Value} (h : AddR w rb b pb B s s' ws C C' L us W) (hk : k < 8) (h4 : k ≠ 4) (hv : v = ws.getD k undef) :
    AddR w rb b pb B s s' ws C C' (fun j => j == k || L j) (updF us k v) W := by
  refine ⟨h.only, fun j hj hl => ?_, ?_, ?_⟩
  · by_cases e : j = k
    · subst e; simp [updF, hv]
    · simp only [updF, if_neg e]
      exact h.vals j hj (by simpa [e] using hl)
  · have : ((4 == k) || L 4) = L 4 := by rw [show ((4 : Nat) == k) = false from beq_false_of_ne (fun e => h4 e.symm), Bool.false_or]
    rw [this]
    exact h.rd
  · have : ((8 == k) || L 8) = L 8 := by rw [show ((8 : Nat) == k) = false from beq_false_of_ne (by omega), Bool.false_or]
    rw [this]
    exact h.row
theorem AddR.call {w W W' : World} {rb b pb B : Nat} {s s' : St} {ws : List Value} {C C' : Array Value} {L : Nat → Bool} {us : Nat → Value} {v : Value} (h : AddR w rb b pb B s s' ws C C' L us W) (hpb : pb ≠ rb) (hB : B ≤ W.heap.size) (hv : v = ws.getD 4 undef)
    (hR : RdAt W' rb 200 b s') (ho : Only rb W.heap.size W W') : AddR w rb b pb B s s' ws C C' (fun j => j == 4 || L j) (updF us 4 v) W' := by
  refine ⟨h.only.trans ho hB, fun j hj hl => ?_, ?_, ?_⟩
  · by_cases e : j = 4
    · subst e; simp [updF, hv]
    · simp only [updF, if_neg e]
      exact h.vals j hj (by simpa [e] using hl)
  · simpa using hR
  · exact ho.heap hpb h.row
theorem AddR.store {w W : World} {rb b pb B : Nat} {s s' : St} {ws : List Value} {C C' : Array Value} {L : Nat → Bool} {us : Nat → Value} {u v : Value} (h : AddR w rb b pb B s s' ws C C' L us W) (h1 : rb ≠ pb) (h2 : b ≠ pb) (hB : B ≤ pb) (h8 : L 8 = false)
    (hC : C' = C.setIfInBounds 4 u) : AddR w rb b pb B s s' ws C C' (fun j => j == 8 || L j) (updF us 8 v) (W.setCell ⟨pb, 4, none⟩ u) := by
  refine ⟨h.only.set hB _, fun j hj hl => ?_, ?_, ?_⟩
  · have e : j ≠ 8 := by omega
    simp only [updF, if_neg e]
    exact h.vals j hj (by simpa [e] using hl)
  · exact h.rd.set h1 h2 _
  · have := h.row
    rw [h8] at this
    have h3 := heap_setCell (j := 4) this u
    simpa [hC] using h3
theorem size78 : (Tryz.prog.info? 109).map (·.size) = some 9 := by kernel_rfl
theorem Only.row {rb B g : Nat} {w W : World} {cs : Array Value} (h : Only rb B w W) (hg : B ≤ g) : Only rb B w (W.setRow g cs) :=
  ⟨h.os, h.tape, h.output, by have := h.size; simpa using this, fun k hk hne => by rw [setRow_other W g k _ (by omega)]; exact h.block k hk hne⟩
theorem RdAt.row {w : World} {rb ty b g : Nat} {s : St} {cs : Array Value} (h : RdAt w rb ty b s) (h1 : rb ≠ g) (h2 : b ≠ g) : RdAt (w.setRow g cs) rb ty b s :=
  h.same (by rw [setRow_other w g rb _ (by omega)]) (by rw [setRow_other w g b _ (by omega)]) (by simp)
set_option maxRecDepth 100000 in
set_option maxHeartbeats 12800000 in
theorem point_any (rb b : Nat) (l : Int) (s : St) (w : World) (h : RdAt w rb 200 b s) (hl : 0 ≤ l ∧ l ≤ 1152921504606846976) :
    Calls Tryz.prog 80 #[.pointer (some ⟨rb, 0, none⟩), .int .i64 l] w fun r w' => r = .returned (.agg (ptY l s).1.row.toArray) ∧ RdAt w' rb 200 b (ptY l s).2 ∧ Only rb w.heap.size w w' := by
  have hrb := h.rb_lt
  have hbl := h.b_lt
  have hne := h.apart
  rcases e0 : nextS false s with ⟨v0, t1⟩
  rcases e1 : nextS true t1 with ⟨v1, t2⟩
  rcases e2 : nextS true t2 with ⟨v2, t3⟩
  rcases e3 : nextS true t3 with ⟨v3, t4⟩
  rcases e4 : nextS false t4 with ⟨v4, t5⟩
  rcases e5 : nextS false t5 with ⟨v5, t6⟩
  rcases e6 : nextS false t6 with ⟨v6, t7⟩
  rcases e7 : nextS false t7 with ⟨v7, t8⟩
  rcases e8 : nextS false t8 with ⟨v8, t9⟩
  have HPT := hid (show ptY l s = (⟨l + v0, v1, v2, v3, v3 + v4, v5, v6, v7, v8⟩, if 1152921504606846976 < l + v0 ∨ 268435456 < v3 + v4 then t9.mark else t9) by
    unfold ptY
    simp only [e0, e1, e2, e3, e4, e5, e6, e7, e8])
  obtain ⟨s9, hs9⟩ : ∃ s9, s9 = (if 1152921504606846976 < l + v0 ∨ 268435456 < v3 + v4 then t9.mark else t9) := ⟨_, rfl⟩
  rw [HPT.out, ← hs9]
  have HS9 := hid hs9
  clear hs9
  have q0 := nextU_range s
  have q3 := nextI_range t3
  have q4 := nextU_range t4
  rw [e0] at q0
  rw [e3] at q3
  rw [e4] at q4
  simp only at q0 q3 q4
  have E0 := hid e0
  have E1 := hid e1
  have E2 := hid e2
  have E3 := hid e3
  have E4 := hid e4
  have E5 := hid e5
  have E6 := hid e6
  have E7 := hid e7
  have E8 := hid e8
  clear e0 e1 e2 e3 e4 e5 e6 e7 e8
  obtain ⟨qb, hqb⟩ : ∃ qb, qb = w.heap.size := ⟨_, rfl⟩
  have hqw : w.heap.size ≤ qb := by omega
  have G0 := hid (heap_alloc_at w (.cells #[.int .i64 0, .int .i64 0, .int .i64 0, .int .i64 0, .int .i64 0, .int .i64 0, .int .i64 0, .int .i64 0, .int .i64 0] 109) qb hqb)
  have R0 := hid (h.alloc (.cells #[.int .i64 0, .int .i64 0, .int .i64 0, .int .i64 0, .int .i64 0, .int .i64 0, .int .i64 0, .int .i64 0, .int .i64 0] 109))
  have O0 := hid ((Only.refl rb w.heap.size w).alloc (Nat.le_refl _) (.cells #[.int .i64 0, .int .i64 0, .int .i64 0, .int .i64 0, .int .i64 0, .int .i64 0, .int .i64 0, .int .i64 0, .int .i64 0] 109))
  have z0 : (w.alloc (.cells #[.int .i64 0, .int .i64 0, .int .i64 0, .int .i64 0, .int .i64 0, .int .i64 0, .int .i64 0, .int .i64 0, .int .i64 0] 109)).heap.size = qb + 1 := by simp [hqb]
  have HQB := hid hqb
  clear hqb h
  go_enter Tryz.func80, Tryz.ntmps80
  go_wp2_with fail
  rw [← HQB.out]
  generalize w.alloc (.cells #[.int .i64 0, .int .i64 0, .int .i64 0, .int .i64 0, .int .i64 0, .int .i64 0, .int .i64 0, .int .i64 0, .int .i64 0] 109) = W0 at *
  refine (unum_at _ E0.out R0.out).mono ?_
  rintro r w2 ⟨rfl, hrd, hol⟩
  have R3 := hid hrd
  have O3 := hid (O0.out.trans hol (by omega))
  have G3 := hid (show w2.heap[qb]? = some (.cells #[.int .i64 0, .int .i64 0, .int .i64 0, .int .i64 0, .int .i64 0, .int .i64 0, .int .i64 0, .int .i64 0, .int .i64 0] 109) from hol.heap (by omega) G0.out)
  have hz3 : qb < w2.heap.size := (Array.getElem?_eq_some_iff.1 G3.out).1
  clear hrd hol
  go_wp2_with fail
  obtain ⟨pb, hpb⟩ : ∃ pb, pb = w2.heap.size := ⟨_, rfl⟩
  rw [← hpb]
  have F3 := hid (heap_alloc_at w2 (.cells #[.int .i64 (l + v0), .int .i64 0, .int .i64 0, .int .i64 0, .int .i64 0, .int .i64 0, .int .i64 0, .int .i64 0, .int .i64 0] 109) pb hpb)
  have R4 := hid (R3.out.alloc (.cells #[.int .i64 (l + v0), .int .i64 0, .int .i64 0, .int .i64 0, .int .i64 0, .int .i64 0, .int .i64 0, .int .i64 0, .int .i64 0] 109))
  have O4 := hid (O3.out.alloc O3.out.size (.cells #[.int .i64 (l + v0), .int .i64 0, .int .i64 0, .int .i64 0, .int .i64 0, .int .i64 0, .int .i64 0, .int .i64 0, .int .i64 0] 109))
  have G4 := hid (show (w2.alloc (.cells #[.int .i64 (l + v0), .int .i64 0, .int .i64 0, .int .i64 0, .int .i64 0, .int .i64 0, .int .i64 0, .int .i64 0, .int .i64 0] 109)).heap[qb]? = some (.cells #[.int .i64 0, .int .i64 0, .int .i64 0, .int .i64 0, .int .i64 0, .int .i64 0, .int .i64 0, .int .i64 0, .int .i64 0] 109) from heap_alloc_past _ _ _ _ G3.out)
  have hz4 : (w2.alloc (.cells #[.int .i64 (l + v0), .int .i64 0, .int .i64 0, .int .i64 0, .int .i64 0, .int .i64 0, .int .i64 0, .int .i64 0, .int .i64 0] 109)).heap.size = pb + 1 := by simp [hpb]
  have hpw : w.heap.size ≤ pb := by have := O3.out.size; omega
  have hpq : qb < pb := by omega
  clear hpb R3 O3 G3
  generalize w2.alloc (.cells #[.int .i64 (l + v0), .int .i64 0, .int .i64 0, .int .i64 0, .int .i64 0, .int .i64 0, .int .i64 0, .int .i64 0, .int .i64 0] 109) = W3 at *
  refine (usig_at _ E1.out R4.out).mono ?_
  rintro r w5 ⟨rfl, hrd, hol⟩
  have R5 := hid hrd
  have F5 := hid (show w5.heap[pb]? = some (.cells #[.int .i64 (l + v0), .int .i64 0, .int .i64 0, .int .i64 0, .int .i64 0, .int .i64 0, .int .i64 0, .int .i64 0, .int .i64 0] 109) from hol.heap (by omega) F3.out)
  have G5 := hid (show w5.heap[qb]? = some (.cells #[.int .i64 0, .int .i64 0, .int .i64 0, .int .i64 0, .int .i64 0, .int .i64 0, .int .i64 0, .int .i64 0, .int .i64 0] 109) from hol.heap (by omega) G4.out)
  have O5 := hid (O4.out.trans hol (by first | omega | (simp; omega)))
  have hz5 : pb < w5.heap.size := (Array.getElem?_eq_some_iff.1 F5.out).1
  have c5 : w5.cell? ⟨pb, 1, none⟩ = some (.int .i64 0) := (cell_row (j := 1) F5.out).trans rfl
  have f5 : w5.frozen? ⟨pb, 1, none⟩ = false := by have hh := F5.out; simp [World.frozen?, hh]
  clear hrd hol
  go_wp2_with fail
  refine (usig_at _ E2.out (R5.out.set (by omega) (by omega) _)).mono ?_
  rintro r w6 ⟨rfl, hrd, hol⟩
  have R6 := hid hrd
  have F6 := hid (show w6.heap[pb]? = some (.cells #[.int .i64 (l + v0), .int .i64 v1, .int .i64 0, .int .i64 0, .int .i64 0, .int .i64 0, .int .i64 0, .int .i64 0, .int .i64 0] 109) from hol.heap (by omega) (heap_setCell F5.out _))
  have G6 := hid (show w6.heap[qb]? = some (.cells #[.int .i64 0, .int .i64 0, .int .i64 0, .int .i64 0, .int .i64 0, .int .i64 0, .int .i64 0, .int .i64 0, .int .i64 0] 109) from hol.heap (by omega) (heap_set_other G5.out (by omega) _))
  have O6 := hid ((O5.out.set (by omega) _).trans hol (by first | omega | (simp; omega)))
  have hz6 : pb < w6.heap.size := (Array.getElem?_eq_some_iff.1 F6.out).1
  have c6 : w6.cell? ⟨pb, 2, none⟩ = some (.int .i64 0) := (cell_row (j := 2) F6.out).trans rfl
  have f6 : w6.frozen? ⟨pb, 2, none⟩ = false := by have hh := F6.out; simp [World.frozen?, hh]
  clear hrd hol
  go_wp2_with fail
  refine (usig_at _ E3.out (R6.out.set (by omega) (by omega) _)).mono ?_
  rintro r w7 ⟨rfl, hrd, hol⟩
  have R7 := hid hrd
  have F7 := hid (show w7.heap[pb]? = some (.cells #[.int .i64 (l + v0), .int .i64 v1, .int .i64 v2, .int .i64 0, .int .i64 0, .int .i64 0, .int .i64 0, .int .i64 0, .int .i64 0] 109) from hol.heap (by omega) (heap_setCell F6.out _))
  have G7 := hid (show w7.heap[qb]? = some (.cells #[.int .i64 0, .int .i64 0, .int .i64 0, .int .i64 0, .int .i64 0, .int .i64 0, .int .i64 0, .int .i64 0, .int .i64 0] 109) from hol.heap (by omega) (heap_set_other G6.out (by omega) _))
  have O7 := hid ((O6.out.set (by omega) _).trans hol (by first | omega | (simp; omega)))
  have hz7 : pb < w7.heap.size := (Array.getElem?_eq_some_iff.1 F7.out).1
  have c7 : w7.cell? ⟨pb, 3, none⟩ = some (.int .i64 0) := (cell_row (j := 3) F7.out).trans rfl
  have f7 : w7.frozen? ⟨pb, 3, none⟩ = false := by have hh := F7.out; simp [World.frozen?, hh]
  clear hrd hol
  go_wp2_with fail
  have R20 := hid (show RdAt (w7.setCell ⟨pb, 3, none⟩ (.int .i64 v3)) rb 200 b t4 from (R7.out.set (by omega) (by omega) _))
  have F20 := hid (show (w7.setCell ⟨pb, 3, none⟩ (.int .i64 v3)).heap[pb]? = some (.cells #[.int .i64 (l + v0), .int .i64 v1, .int .i64 v2, .int .i64 v3, .int .i64 0, .int .i64 0, .int .i64 0, .int .i64 0, .int .i64 0] 109) from (heap_setCell F7.out _))
  have G20 := hid (show (w7.setCell ⟨pb, 3, none⟩ (.int .i64 v3)).heap[qb]? = some (.cells #[.int .i64 0, .int .i64 0, .int .i64 0, .int .i64 0, .int .i64 0, .int .i64 0, .int .i64 0, .int .i64 0, .int .i64 0] 109) from (heap_set_other G7.out (by omega) _))
  have O20 := hid (show Only rb w.heap.size w (w7.setCell ⟨pb, 3, none⟩ (.int .i64 v3)) from (O7.out.set (by omega) _))
  clear c5 f5 c6 f6 c7 f7
  refine gen_world (fun W20 hW20 => ?_)
  rw [← hW20] at R20 F20 O20 G20
  clear hW20
  have hz20 : pb < W20.heap.size := (Array.getElem?_eq_some_iff.1 F20.out).1
  refine gen_act (fun A0 hA => ?_)
  refine wp_region_by (by kernel_rfl) (by kernel_rfl) [some 21, some 22, some 23, some 24, some 25, some 26, some 27, some 28, none] rfl (by decide) (fun L us W => AddR w rb b pb w.heap.size t4 t5 [.pointer (some ⟨pb, 3, none⟩), .pointer (some ⟨pb, 3, none⟩), .int .i64 v3, .pointer (some ⟨rb, 0, none⟩), .int .i64 v4, .int .i64 (v3 + v4), .pointer (some ⟨pb, 3, none⟩), .pointer (some ⟨pb, 4, none⟩)] #[.int .i64 (l + v0), .int .i64 v1, .int .i64 v2, .int .i64 v3, .int .i64 0, .int .i64 0, .int .i64 0, .int .i64 0, .int .i64 0] #[.int .i64 (l + v0), .int .i64 v1, .int .i64 v2, .int .i64 v3, .int .i64 (v3 + v4), .int .i64 0, .int .i64 0, .int .i64 0, .int .i64 0] L us W ∧ W.heap[qb]? = some (.cells #[.int .i64 0, .int .i64 0, .int .i64 0, .int .i64 0, .int .i64 0, .int .i64 0, .int .i64 0, .int .i64 0, .int .i64 0] 109)) (selfF A0 _) (putF_self A0 _)
    ⟨⟨O20.out.trans (Only.of_below ((Below.refl W20.heap.size W20).drew)) (by have := O20.out.size; omega), fun _ _ h => (Bool.false_ne_true h).elim, R20.out.grow ((Below.refl _ _).drew), heap_still ((Below.refl _ _).drew) F20.out⟩, heap_still ((Below.refl _ _).drew) G20.out⟩ ?hsA ?hendA
  case hsA =>
    refine ⟨?_, ?_, ?_, ?_, ?_, ?_, ?_, ?_, ?_, trivial⟩
    · intro K L us W hK0 hL hd hRG
      obtain ⟨hR, hG⟩ := hRG
      clear hd
      have hK := hid (fun v A' h1 h2 => hK0 v A' W h1 ⟨hR.pure (by decide) (by decide) h2, hG⟩); clear hK0 hG
      simp only [putF]
      rw [hA]
      go_frame
      go_wp2_with fail
      exact hK.out _ _ (by rw [hA]; simp only [putF]; kernel_rfl) rfl
    · intro K L us W hK0 hL hd hRG
      obtain ⟨hR, hG⟩ := hRG
      simp [Region.binds] at hd
      have e0 : us 0 = .pointer (some ⟨pb, 3, none⟩) := hR.vals 0 (by decide) (by simp [hd])
      clear hd
      have hK := hid (fun v A' h1 h2 => hK0 v A' W h1 ⟨hR.pure (by decide) (by decide) h2, hG⟩); clear hK0 hG
      simp only [putF]
      rw [hA, e0]
      go_frame
      go_wp2_with fail
      exact hK.out _ _ (by rw [hA]; simp only [putF]; rw [e0]; kernel_rfl) rfl
    · intro K L us W hK0 hL hd hRG
      obtain ⟨hR, hG⟩ := hRG
      simp [Region.binds] at hd
      have e1 : us 1 = .pointer (some ⟨pb, 3, none⟩) := hR.vals 1 (by decide) (by simp [hd])
      clear hd
      have c0 : W.cell? ⟨pb, 3, none⟩ = some (.int .i64 v3) := (cell_row (j := 3) hR.row).trans (by split <;> rfl)
      have hK := hid (fun v A' h1 h2 => hK0 v A' W h1 ⟨hR.pure (by decide) (by decide) h2, hG⟩); clear hK0 hG
      simp only [putF]
      rw [hA, e1]
      go_frame
      go_wp2_with fail
      exact hK.out _ _ (by rw [hA]; simp only [putF]; rw [e1]; kernel_rfl) rfl
    · intro K L us W hK0 hL hd hRG
      obtain ⟨hR, hG⟩ := hRG
      clear hd
      have hK := hid (fun v A' h1 h2 => hK0 v A' W h1 ⟨hR.pure (by decide) (by decide) h2, hG⟩); clear hK0 hG
      simp only [putF]
      rw [hA]
      go_frame
      go_wp2_with fail
      exact hK.out _ _ (by rw [hA]; simp only [putF]; kernel_rfl) rfl
    · intro K L us W hK0 hL hd hRG
      obtain ⟨hR, hG⟩ := hRG
      simp [Region.binds] at hd
      have e3 : us 3 = .pointer (some ⟨rb, 0, none⟩) := hR.vals 3 (by decide) (by simp [hd])
      clear hd
      have HRD := hid (show RdAt W rb 200 b t4 by simpa [hL] using hR.rd)
      have hzW := hR.only.size
      have HG := hid hG
      have hK := hid (fun A' W' h1 h2 h3 => hK0 (.int .i64 v4) A' W' h1 ⟨hR.call (by omega) hzW rfl h2 h3, h3.heap (by omega) HG.out⟩); clear hK0 hG
      simp only [putF]
      rw [hA, e3]
      go_frame
      go_wp2_with fail
      refine (unum_at W E4.out HRD.out).mono ?_
      rintro r W' ⟨rfl, hrd, hol⟩
      have HRD2 := hid hrd
      have HOL2 := hid hol
      clear hrd hol
      go_wp2_with fail
      exact hK.out _ _ (by rw [hA]; simp only [putF]; rw [e3]; kernel_rfl) HRD2.out HOL2.out
    · intro K L us W hK0 hL hd hRG
      obtain ⟨hR, hG⟩ := hRG
      simp [Region.binds] at hd
      have e2 : us 2 = .int .i64 v3 := hR.vals 2 (by decide) (by simp [hd])
      have e4 : us 4 = .int .i64 v4 := hR.vals 4 (by decide) (by simp [hd])
      clear hd
      have hK := hid (fun v A' h1 h2 => hK0 v A' W h1 ⟨hR.pure (by decide) (by decide) h2, hG⟩); clear hK0 hG
      simp only [putF]
      rw [hA, e2, e4]
      go_frame
      go_wp2_with fail
      exact hK.out _ _ (by rw [hA]; simp only [putF]; rw [e2]; rw [e4]; kernel_rfl) rfl
    · intro K L us W hK0 hL hd hRG
      obtain ⟨hR, hG⟩ := hRG
      clear hd
      have hK := hid (fun v A' h1 h2 => hK0 v A' W h1 ⟨hR.pure (by decide) (by decide) h2, hG⟩); clear hK0 hG
      simp only [putF]
      rw [hA]
      go_frame
      go_wp2_with fail
      exact hK.out _ _ (by rw [hA]; simp only [putF]; kernel_rfl) rfl
    · intro K L us W hK0 hL hd hRG
      obtain ⟨hR, hG⟩ := hRG
      simp [Region.binds] at hd
      have e6 : us 6 = .pointer (some ⟨pb, 3, none⟩) := hR.vals 6 (by decide) (by simp [hd])
      clear hd
      have hK := hid (fun v A' h1 h2 => hK0 v A' W h1 ⟨hR.pure (by decide) (by decide) h2, hG⟩); clear hK0 hG
      simp only [putF]
      rw [hA, e6]
      go_frame
      go_wp2_with fail
      exact hK.out _ _ (by rw [hA]; simp only [putF]; rw [e6]; kernel_rfl) rfl
    · intro K L us W hK0 hL hd hRG
      obtain ⟨hR, hG⟩ := hRG
      simp [Region.binds] at hd
      have e5 : us 5 = .int .i64 (v3 + v4) := hR.vals 5 (by decide) (by simp [hd])
      have e7 : us 7 = .pointer (some ⟨pb, 4, none⟩) := hR.vals 7 (by decide) (by simp [hd])
      clear hd
      have hrw := hR.row
      rw [hL, if_neg Bool.false_ne_true] at hrw
      have c0 : W.cell? ⟨pb, 4, none⟩ = some (.int .i64 0) := (cell_row (j := 4) hrw).trans rfl
      have f0 : W.frozen? ⟨pb, 4, none⟩ = false := by simp [World.frozen?, hrw]
      have hK := hid (fun v A' h1 => hK0 v A' (W.setCell ⟨pb, 4, none⟩ (.int .i64 (v3 + v4))) h1 ⟨hR.store (by omega) (by omega) hpw hL rfl, heap_set_other hG (by omega) _⟩); clear hK0 hrw hG
      simp only [putF]
      rw [hA, e5, e7]
      go_frame
      go_wp2_with fail
      exact hK.out undef _ (by rw [hA]; simp only [putF]; rw [e5]; rw [e7]; kernel_rfl)
  case hendA =>
  intro L us W21 hL hRG
  obtain ⟨hR, hG⟩ := hRG
  have u0 : us 0 = .pointer (some ⟨pb, 3, none⟩) := hR.vals 0 (by decide) (hL 0 (by decide))
  have u1 : us 1 = .pointer (some ⟨pb, 3, none⟩) := hR.vals 1 (by decide) (hL 1 (by decide))
  have u2 : us 2 = .int .i64 v3 := hR.vals 2 (by decide) (hL 2 (by decide))
  have u3 : us 3 = .pointer (some ⟨rb, 0, none⟩) := hR.vals 3 (by decide) (hL 3 (by decide))
  have u4 : us 4 = .int .i64 v4 := hR.vals 4 (by decide) (hL 4 (by decide))
  have u5 : us 5 = .int .i64 (v3 + v4) := hR.vals 5 (by decide) (hL 5 (by decide))
  have u6 : us 6 = .pointer (some ⟨pb, 3, none⟩) := hR.vals 6 (by decide) (hL 6 (by decide))
  have u7 : us 7 = .pointer (some ⟨pb, 4, none⟩) := hR.vals 7 (by decide) (hL 7 (by decide))
  have R21 := hid (show RdAt W21 rb 200 b t5 by have h := hR.rd; rw [hL 4 (by decide), if_pos rfl] at h; exact h)
  have F21 := hid (show W21.heap[pb]? = some (.cells #[.int .i64 (l + v0), .int .i64 v1, .int .i64 v2, .int .i64 v3, .int .i64 (v3 + v4), .int .i64 0, .int .i64 0, .int .i64 0, .int .i64 0] 109) by have h := hR.row; rw [hL 8 (by decide), if_pos rfl] at h; exact h)
  have O21 := hid hR.only
  have G21 := hid hG
  clear hL hR hG
  simp only [putF]
  rw [hA, u0, u1, u2, u3, u4, u5, u6, u7]
  clear u0 u1 u2 u3 u4 u5 u6 u7
  have hz21 : pb < W21.heap.size := (Array.getElem?_eq_some_iff.1 F21.out).1
  go_frame
  go_wp2_with fail
  refine (unum_at _ E5.out R21.out).mono ?_
  rintro r w22 ⟨rfl, hrd, hol⟩
  have R22 := hid hrd
  have F22 := hid (show w22.heap[pb]? = some (.cells #[.int .i64 (l + v0), .int .i64 v1, .int .i64 v2, .int .i64 v3, .int .i64 (v3 + v4), .int .i64 0, .int .i64 0, .int .i64 0, .int .i64 0] 109) from hol.heap (by omega) F21.out)
  have G22 := hid (show w22.heap[qb]? = some (.cells #[.int .i64 0, .int .i64 0, .int .i64 0, .int .i64 0, .int .i64 0, .int .i64 0, .int .i64 0, .int .i64 0, .int .i64 0] 109) from hol.heap (by omega) G21.out)
  have O22 := hid (O21.out.trans hol (by first | omega | (simp; omega)))
  have hz22 : pb < w22.heap.size := (Array.getElem?_eq_some_iff.1 F22.out).1
  have c22 : w22.cell? ⟨pb, 5, none⟩ = some (.int .i64 0) := (cell_row (j := 5) F22.out).trans rfl
  have f22 : w22.frozen? ⟨pb, 5, none⟩ = false := by have hh := F22.out; simp [World.frozen?, hh]
  clear hrd hol
  go_wp2_with fail
  refine (unum_at _ E6.out (R22.out.set (by omega) (by omega) _)).mono ?_
  rintro r w23 ⟨rfl, hrd, hol⟩
  have R23 := hid hrd
  have F23 := hid (show w23.heap[pb]? = some (.cells #[.int .i64 (l + v0), .int .i64 v1, .int .i64 v2, .int .i64 v3, .int .i64 (v3 + v4), .int .i64 v5, .int .i64 0, .int .i64 0, .int .i64 0] 109) from hol.heap (by omega) (heap_setCell F22.out _))
  have G23 := hid (show w23.heap[qb]? = some (.cells #[.int .i64 0, .int .i64 0, .int .i64 0, .int .i64 0, .int .i64 0, .int .i64 0, .int .i64 0, .int .i64 0, .int .i64 0] 109) from hol.heap (by omega) (heap_set_other G22.out (by omega) _))
  have O23 := hid ((O22.out.set (by omega) _).trans hol (by first | omega | (simp; omega)))
  have hz23 : pb < w23.heap.size := (Array.getElem?_eq_some_iff.1 F23.out).1
  have c23 : w23.cell? ⟨pb, 6, none⟩ = some (.int .i64 0) := (cell_row (j := 6) F23.out).trans rfl
  have f23 : w23.frozen? ⟨pb, 6, none⟩ = false := by have hh := F23.out; simp [World.frozen?, hh]
  clear hrd hol
  go_wp2_with fail
  refine (unum_at _ E7.out (R23.out.set (by omega) (by omega) _)).mono ?_
  rintro r w24 ⟨rfl, hrd, hol⟩
  have R24 := hid hrd
  have F24 := hid (show w24.heap[pb]? = some (.cells #[.int .i64 (l + v0), .int .i64 v1, .int .i64 v2, .int .i64 v3, .int .i64 (v3 + v4), .int .i64 v5, .int .i64 v6, .int .i64 0, .int .i64 0] 109) from hol.heap (by omega) (heap_setCell F23.out _))
  have G24 := hid (show w24.heap[qb]? = some (.cells #[.int .i64 0, .int .i64 0, .int .i64 0, .int .i64 0, .int .i64 0, .int .i64 0, .int .i64 0, .int .i64 0, .int .i64 0] 109) from hol.heap (by omega) (heap_set_other G23.out (by omega) _))
  have O24 := hid ((O23.out.set (by omega) _).trans hol (by first | omega | (simp; omega)))
  have hz24 : pb < w24.heap.size := (Array.getElem?_eq_some_iff.1 F24.out).1
  have c24 : w24.cell? ⟨pb, 7, none⟩ = some (.int .i64 0) := (cell_row (j := 7) F24.out).trans rfl
  have f24 : w24.frozen? ⟨pb, 7, none⟩ = false := by have hh := F24.out; simp [World.frozen?, hh]
  clear hrd hol
  go_wp2_with fail
  refine (unum_at _ E8.out (R24.out.set (by omega) (by omega) _)).mono ?_
  rintro r w25 ⟨rfl, hrd, hol⟩
  have R25 := hid hrd
  have F25 := hid (show w25.heap[pb]? = some (.cells #[.int .i64 (l + v0), .int .i64 v1, .int .i64 v2, .int .i64 v3, .int .i64 (v3 + v4), .int .i64 v5, .int .i64 v6, .int .i64 v7, .int .i64 0] 109) from hol.heap (by omega) (heap_setCell F24.out _))
  have G25 := hid (show w25.heap[qb]? = some (.cells #[.int .i64 0, .int .i64 0, .int .i64 0, .int .i64 0, .int .i64 0, .int .i64 0, .int .i64 0, .int .i64 0, .int .i64 0] 109) from hol.heap (by omega) (heap_set_other G24.out (by omega) _))
  have O25 := hid ((O24.out.set (by omega) _).trans hol (by first | omega | (simp; omega)))
  have hz25 : pb < w25.heap.size := (Array.getElem?_eq_some_iff.1 F25.out).1
  have c25 : w25.cell? ⟨pb, 8, none⟩ = some (.int .i64 0) := (cell_row (j := 8) F25.out).trans rfl
  have f25 : w25.frozen? ⟨pb, 8, none⟩ = false := by have hh := F25.out; simp [World.frozen?, hh]
  clear hrd hol
  have RX := hid (show RdAt (w25.setCell ⟨pb, 8, none⟩ (.int .i64 v8)) rb 200 b t9 from (R25.out.set (by omega) (by omega) _))
  have FX := hid (show (w25.setCell ⟨pb, 8, none⟩ (.int .i64 v8)).heap[pb]? = some (.cells #[.int .i64 (l + v0), .int .i64 v1, .int .i64 v2, .int .i64 v3, .int .i64 (v3 + v4), .int .i64 v5, .int .i64 v6, .int .i64 v7, .int .i64 v8] 109) from (heap_setCell F25.out _))
  have GX := hid (show (w25.setCell ⟨pb, 8, none⟩ (.int .i64 v8)).heap[qb]? = some (.cells #[.int .i64 0, .int .i64 0, .int .i64 0, .int .i64 0, .int .i64 0, .int .i64 0, .int .i64 0, .int .i64 0, .int .i64 0] 109) from (heap_set_other G25.out (by omega) _))
  have OX := hid (show Only rb w.heap.size w (w25.setCell ⟨pb, 8, none⟩ (.int .i64 v8)) from (O25.out.set (by omega) _))
  have hzX : pb < (w25.setCell ⟨pb, 8, none⟩ (.int .i64 v8)).heap.size := (Array.getElem?_eq_some_iff.1 FX.out).1
  have y0 : (w25.setCell ⟨pb, 8, none⟩ (.int .i64 v8)).cell? ⟨pb, 0, none⟩ = some (.int .i64 (l + v0)) := (cell_row (j := 0) FX.out).trans rfl
  have y4 : (w25.setCell ⟨pb, 8, none⟩ (.int .i64 v8)).cell? ⟨pb, 4, none⟩ = some (.int .i64 (v3 + v4)) := (cell_row (j := 4) FX.out).trans rfl
  by_cases h1 : 1152921504606846976 < l + v0
  · have k1 : decide ((1152921504606846976 : Int) < l + v0) = true := decide_eq_true h1
    have HSX := hid (HS9.out.trans (if_pos (Or.inl h1)))
    clear h1
    have yb := RX.out.flag.1
    have yf := RX.out.flag.2
    have RY := hid RX.out.mark
    have FY := hid (heap_set_other (j := 1) (g := rb) FX.out (by omega) (.bool true))
    have GY := hid (heap_set_other (j := 1) (g := rb) GX.out (by omega) (.bool true))
    have OY := hid (only_setCell (j := 1) OX.out (.bool true))
    have d0 : ((w25.setCell ⟨pb, 8, none⟩ (.int .i64 v8)).setCell ⟨rb, 1, none⟩ (.bool true)).cell? ⟨pb, 0, none⟩ = some (.int .i64 (l + v0)) := (cell_row (j := 0) FY.out).trans rfl
    have d1 : ((w25.setCell ⟨pb, 8, none⟩ (.int .i64 v8)).setCell ⟨rb, 1, none⟩ (.bool true)).cell? ⟨pb, 1, none⟩ = some (.int .i64 v1) := (cell_row (j := 1) FY.out).trans rfl
    have d2 : ((w25.setCell ⟨pb, 8, none⟩ (.int .i64 v8)).setCell ⟨rb, 1, none⟩ (.bool true)).cell? ⟨pb, 2, none⟩ = some (.int .i64 v2) := (cell_row (j := 2) FY.out).trans rfl
    have d3 : ((w25.setCell ⟨pb, 8, none⟩ (.int .i64 v8)).setCell ⟨rb, 1, none⟩ (.bool true)).cell? ⟨pb, 3, none⟩ = some (.int .i64 v3) := (cell_row (j := 3) FY.out).trans rfl
    have d4 : ((w25.setCell ⟨pb, 8, none⟩ (.int .i64 v8)).setCell ⟨rb, 1, none⟩ (.bool true)).cell? ⟨pb, 4, none⟩ = some (.int .i64 (v3 + v4)) := (cell_row (j := 4) FY.out).trans rfl
    have d5 : ((w25.setCell ⟨pb, 8, none⟩ (.int .i64 v8)).setCell ⟨rb, 1, none⟩ (.bool true)).cell? ⟨pb, 5, none⟩ = some (.int .i64 v5) := (cell_row (j := 5) FY.out).trans rfl
    have d6 : ((w25.setCell ⟨pb, 8, none⟩ (.int .i64 v8)).setCell ⟨rb, 1, none⟩ (.bool true)).cell? ⟨pb, 6, none⟩ = some (.int .i64 v6) := (cell_row (j := 6) FY.out).trans rfl
    have d7 : ((w25.setCell ⟨pb, 8, none⟩ (.int .i64 v8)).setCell ⟨rb, 1, none⟩ (.bool true)).cell? ⟨pb, 7, none⟩ = some (.int .i64 v7) := (cell_row (j := 7) FY.out).trans rfl
    have d8 : ((w25.setCell ⟨pb, 8, none⟩ (.int .i64 v8)).setCell ⟨rb, 1, none⟩ (.bool true)).cell? ⟨pb, 8, none⟩ = some (.int .i64 v8) := (cell_row (j := 8) FY.out).trans rfl
    go_wp2_with ((refine wpList_store_at rfl 109 (.tmp 4) (.tmp 53) rfl rfl rfl GY.out size78 rfl rfl rfl ?_))
    exact bodyPost_ret (results_at1 rfl rfl (setRow_heap _ _ _ _ _ _ GY.out) Tryz.underlying109 rfl size78 rfl) rfl ⟨rfl, by rw [HSX.out]; exact RY.out.row (by omega) (by omega), OY.out.row hqw⟩
  · have k1 : decide ((1152921504606846976 : Int) < l + v0) = false := decide_eq_false h1
    by_cases h2 : 268435456 < v3 + v4
    · have k2 : decide ((268435456 : Int) < v3 + v4) = true := decide_eq_true h2
      have HSX := hid (HS9.out.trans (if_pos (Or.inr h2)))
      clear h1 h2
      have yb := RX.out.flag.1
      have yf := RX.out.flag.2
      have RY := hid RX.out.mark
      have FY := hid (heap_set_other (j := 1) (g := rb) FX.out (by omega) (.bool true))
      have GY := hid (heap_set_other (j := 1) (g := rb) GX.out (by omega) (.bool true))
      have OY := hid (only_setCell (j := 1) OX.out (.bool true))
      have d0 : ((w25.setCell ⟨pb, 8, none⟩ (.int .i64 v8)).setCell ⟨rb, 1, none⟩ (.bool true)).cell? ⟨pb, 0, none⟩ = some (.int .i64 (l + v0)) := (cell_row (j := 0) FY.out).trans rfl
      have d1 : ((w25.setCell ⟨pb, 8, none⟩ (.int .i64 v8)).setCell ⟨rb, 1, none⟩ (.bool true)).cell? ⟨pb, 1, none⟩ = some (.int .i64 v1) := (cell_row (j := 1) FY.out).trans rfl
      have d2 : ((w25.setCell ⟨pb, 8, none⟩ (.int .i64 v8)).setCell ⟨rb, 1, none⟩ (.bool true)).cell? ⟨pb, 2, none⟩ = some (.int .i64 v2) := (cell_row (j := 2) FY.out).trans rfl
      have d3 : ((w25.setCell ⟨pb, 8, none⟩ (.int .i64 v8)).setCell ⟨rb, 1, none⟩ (.bool true)).cell? ⟨pb, 3, none⟩ = some (.int .i64 v3) := (cell_row (j := 3) FY.out).trans rfl
      have d4 : ((w25.setCell ⟨pb, 8, none⟩ (.int .i64 v8)).setCell ⟨rb, 1, none⟩ (.bool true)).cell? ⟨pb, 4, none⟩ = some (.int .i64 (v3 + v4)) := (cell_row (j := 4) FY.out).trans rfl
      have d5 : ((w25.setCell ⟨pb, 8, none⟩ (.int .i64 v8)).setCell ⟨rb, 1, none⟩ (.bool true)).cell? ⟨pb, 5, none⟩ = some (.int .i64 v5) := (cell_row (j := 5) FY.out).trans rfl
      have d6 : ((w25.setCell ⟨pb, 8, none⟩ (.int .i64 v8)).setCell ⟨rb, 1, none⟩ (.bool true)).cell? ⟨pb, 6, none⟩ = some (.int .i64 v6) := (cell_row (j := 6) FY.out).trans rfl
      have d7 : ((w25.setCell ⟨pb, 8, none⟩ (.int .i64 v8)).setCell ⟨rb, 1, none⟩ (.bool true)).cell? ⟨pb, 7, none⟩ = some (.int .i64 v7) := (cell_row (j := 7) FY.out).trans rfl
      have d8 : ((w25.setCell ⟨pb, 8, none⟩ (.int .i64 v8)).setCell ⟨rb, 1, none⟩ (.bool true)).cell? ⟨pb, 8, none⟩ = some (.int .i64 v8) := (cell_row (j := 8) FY.out).trans rfl
      go_wp2_with ((refine wpList_store_at rfl 109 (.tmp 4) (.tmp 53) rfl rfl rfl GY.out size78 rfl rfl rfl ?_))
      exact bodyPost_ret (results_at1 rfl rfl (setRow_heap _ _ _ _ _ _ GY.out) Tryz.underlying109 rfl size78 rfl) rfl ⟨rfl, by rw [HSX.out]; exact RY.out.row (by omega) (by omega), OY.out.row hqw⟩
    · have k2 : decide ((268435456 : Int) < v3 + v4) = false := decide_eq_false h2
      have HSX := hid (HS9.out.trans (if_neg (fun h => h.elim h1 h2)))
      clear h1 h2
      have RY := hid RX.out
      have FY := hid FX.out
      have GY := hid GX.out
      have OY := hid OX.out
      have d1 : (w25.setCell ⟨pb, 8, none⟩ (.int .i64 v8)).cell? ⟨pb, 1, none⟩ = some (.int .i64 v1) := (cell_row (j := 1) FY.out).trans rfl
      have d2 : (w25.setCell ⟨pb, 8, none⟩ (.int .i64 v8)).cell? ⟨pb, 2, none⟩ = some (.int .i64 v2) := (cell_row (j := 2) FY.out).trans rfl
      have d3 : (w25.setCell ⟨pb, 8, none⟩ (.int .i64 v8)).cell? ⟨pb, 3, none⟩ = some (.int .i64 v3) := (cell_row (j := 3) FY.out).trans rfl
      have d5 : (w25.setCell ⟨pb, 8, none⟩ (.int .i64 v8)).cell? ⟨pb, 5, none⟩ = some (.int .i64 v5) := (cell_row (j := 5) FY.out).trans rfl
      have d6 : (w25.setCell ⟨pb, 8, none⟩ (.int .i64 v8)).cell? ⟨pb, 6, none⟩ = some (.int .i64 v6) := (cell_row (j := 6) FY.out).trans rfl
      have d7 : (w25.setCell ⟨pb, 8, none⟩ (.int .i64 v8)).cell? ⟨pb, 7, none⟩ = some (.int .i64 v7) := (cell_row (j := 7) FY.out).trans rfl
      have d8 : (w25.setCell ⟨pb, 8, none⟩ (.int .i64 v8)).cell? ⟨pb, 8, none⟩ = some (.int .i64 v8) := (cell_row (j := 8) FY.out).trans rfl
      go_wp2_with ((refine wpList_store_at rfl 109 (.tmp 4) (.tmp 53) rfl rfl rfl GY.out size78 rfl rfl rfl ?_))
      exact bodyPost_ret (results_at1 rfl rfl (setRow_heap _ _ _ _ _ _ GY.out) Tryz.underlying109 rfl size78 rfl) rfl ⟨rfl, by rw [HSX.out]; exact RY.out.row (by omega) (by omega), OY.out.row hqw⟩
end Go.Proofs.YtpfighhhemnhaaaGreat

/- Byt -/
namespace Go.Proofs.YtpfighhhemnhaaaGreat
open Go.RowKit Go.Sort

theorem four_at {w : World} {c : Nat} {z1 z2 z3 z4 : Int} (h : z1 = (c / 16777216 % 256 : Nat) ∧ z2 = (c / 65536 % 256 : Nat) ∧ z3 = (c / 256 % 256 : Nat) ∧ z4 = (c % 256 : Nat)) :
    ∀ (j : Nat) (u : Value), (u8s (bytes4 c))[j]? = some u → (w.alloc (.cells #[.int .u8 z1, .int .u8 z2, .int .u8 z3, .int .u8 z4] 5)).cell? ((⟨w.heap.size, 0, none⟩ : Addr).add j) = some u := by
  obtain ⟨rfl, rfl, rfl, rfl⟩ := h
  intro j u hj
  have ha : ((⟨w.heap.size, 0, none⟩ : Addr).add j) = ⟨w.heap.size, j, none⟩ := by simp [Addr.add]; exact fun h => h.symm
  rw [ha, cell_row (heap_alloc_at _ _ _ rfl), ← hj]
  simp [u8s, bytes4]
theorem bytes_add {w : World} {b off : Nat} {l : List Nat} (h : bytesAt w b off l.length (fun i => l.getD i 0)) : ∀ (j : Nat) (u : Value), (u8s l)[j]? = some u → w.cell? ((⟨b, off, none⟩ : Addr).add j) = some u := by
  intro j u hj
  have ha : ((⟨b, off, none⟩ : Addr).add j) = ⟨b, off + j, none⟩ := by simp [Addr.add]
  have hl : j < l.length := by
    have := (List.getElem?_eq_some_iff.1 hj).1
    simpa [u8s] using this
  rw [ha, h j hl, ← hj]
  simp only [u8s, List.getElem?_map]
  rw [List.getD_eq_getElem?_getD, List.getElem?_eq_getElem hl]
  rfl
set_option maxRecDepth 100000 in
/-- slices.Clone at bytes, of a slice that is not nil -/
theorem bclone_any (b off n c : Nat) (l : List Nat) (w : World) (hn : l.length = n) (hx : n ≤ 900000) (hbw : b < w.heap.size) (hb : bytesAt w b off l.length (fun i => l.getD i 0)) :
    Calls Tryz.prog 78 #[.slice (some ⟨b, off, none⟩) n c] w fun r w' => (∃ v, r = .returned v ∧ w'.ownsRow w.heap.size 5 1 v n (u8s l)) ∧ Below w.heap.size w w' := by
  have HC := hid (bytes_add (bytes_still hb hbw ((Below.refl w.heap.size w).alloc (Nat.le_refl _) (.cells #[] 5))))
  obtain ⟨i0, hi, hz0, hz1, hz2⟩ := info_parts info5
  have HI := hid hi
  have HZ0 := hid hz0
  have HZ1 := hid hz1
  have HZ2 := hid hz2
  have HLEN := hid (show (u8s l).length = n * 1 by simp [u8s, hn])
  have HL2 := hid hn
  clear hi hz0 hz1 hz2 hb hn
  have heq := fun w => Lib.run_eql_slice_nil (P := Tryz.prog) w 38 5 (some ⟨b, off, none⟩) n c 0 0 Tryz.underlying38
  have HOWN := hid (show (w.alloc (.cells #[] 5)).ownsRow w.heap.size 5 1 (.slice (some ⟨w.heap.size, 0, none⟩) 0 0) 0 [] from ⟨rfl, Or.inr ⟨_, 0, #[], rfl, Nat.le_refl _, heap_alloc_at _ _ _ rfl, Nat.le_refl _, by simp, rfl, rfl⟩⟩)
  go_enter Tryz.func78, Tryz.ntmps78
  go_wp2_with (at_builtin; (refine wpList_append_own _ rfl (.tmp 5) (.tmp 6) 38 rfl w.heap.size 5 i0 (.int .u8 0) 1 1 Tryz.underlying38 HI.out HZ0.out HZ1.out HZ2.out rfl (by decide) _ 0 [] rfl HOWN.out ⟨b, off, none⟩ n c (u8s l) rfl HLEN.out HC.out (u8s_one _) (by unfold maxLen; omega) (by omega) (by simp) ?_); intro v' w1 hown hgrow hnil)
  go_ret
  refine ⟨⟨_, rfl, ?_⟩, ((Below.refl w.heap.size w).alloc (Nat.le_refl _) _).grown hgrow (by simp) (fun k hk => by injection hk with hk; subst hk; exact Nat.le_refl _)⟩
  simpa using hown
theorem row_cases {w : World} {B n : Nat} {v : Value} {xs : List Nat} (h : w.ownsRow B 5 1 v n (u8s xs)) : xs.length = n ∧ ((v = .slice none 0 0 ∧ n = 0) ∨ ∃ g cap, v = .slice (some ⟨g, 0, none⟩) n cap ∧ B ≤ g ∧ n ≤ cap ∧ cap ≤ 9223372036854775807 ∧ g < w.heap.size ∧ bytesAt w g 0 n (fun i => xs.getD i 0)) := by
  have hl : xs.length = n := by have := h.1; simpa [u8s] using this
  refine ⟨hl, ?_⟩
  have hc := h
  rcases h.2 with h2 | ⟨g, cap, cur, hv, hg, hr, hn, hm, _⟩
  · exact Or.inl h2
  · subst hv
    refine Or.inr ⟨g, cap, rfl, hg, hn, by unfold maxLen at hm; omega, (Array.getElem?_eq_some_iff.1 hr).1, ?_⟩
    rw [← hl] at hc ⊢
    exact u8s_cells hc
set_option maxRecDepth 100000 in
theorem xSum_none (p0 : Option Addr) (c : Nat) (w : World) : Calls Tryz.prog 136 #[.slice p0 0 c] w fun r w' => r = .returned (.int .u32 (crcL [] : Nat)) ∧ w = w' := by
  have HE := hid (show (crcL [] : Nat) = 0 by kernel_rfl)
  go_enter Tryz.func136, Tryz.ntmps136
  go_wp2_with fail
  refine wp_loop_rounds 1 ?_
  rw [rounds_succ]
  go_wp2_with fail
  go_ret
  exact ⟨by rw [HE.out]; rfl, rfl⟩
set_option maxRecDepth 100000 in
set_option maxHeartbeats 800000 in
/-- the checksum appended -/
theorem checked_own (B n : Nat) (v : Value) (xs : List Nat) (w : World) (ho : w.ownsRow B 5 1 v n (u8s xs)) (hB : B ≤ w.heap.size) (hx : n ≤ 900000) (hg : ∀ x ∈ xs, x < 256) :
    Calls Tryz.prog 76 #[v] w fun e w' => (∃ v', e = .returned v' ∧ OwnB w' B v' (xs ++ bytes4 (crcL xs))) ∧ Below B w w' := by
  have HO := hid ho
  obtain ⟨hl, hcs⟩ := row_cases ho
  have HS := hid (show Calls Tryz.prog 136 #[v] w fun r w' => r = .returned (.int .u32 (crcL xs : Nat)) ∧ w = w' by
    rcases hcs with ⟨rfl, h0⟩ | ⟨g, cap, rfl, hg', hn, hm, hgw, hby⟩
    · have hnil : xs = [] := List.length_eq_zero_iff.1 (by omega)
      subst hnil
      exact xSum_none none 0 w
    · have h := xSum_any g 0 n cap (fun i => xs.getD i 0) w (by omega) (getD_byte hg) hby
      have e : crcL xs = crcV (fun i => xs.getD i 0) n := by rw [← hl]; rfl
      rw [e]
      exact h)
  have HCB := hid (crcL_lt xs)
  obtain ⟨p0, cap, rfl, hpb⟩ : ∃ p0 cap, v = .slice p0 n cap ∧ (∀ k, (Value.slice p0 n cap).ownBlock = some k → B ≤ k) := by
    rcases hcs with ⟨rfl, h0⟩ | ⟨g, cap, rfl, hg', _⟩
    · subst h0; exact ⟨none, 0, rfl, fun k h => by simp [Value.ownBlock] at h⟩
    · exact ⟨some ⟨g, 0, none⟩, cap, rfl, fun k h => by have h1 : g = k := Option.some.inj h; omega⟩
  obtain ⟨i0, hi, hz0, hz1, hz2⟩ := info_parts info5
  have HI := hid hi
  have HZ0 := hid hz0
  have HZ1 := hid hz1
  have HZ2 := hid hz2
  have HNX := hid hl
  have HPB := hid hpb
  generalize crcL xs = c at *
  have hcb := HCB.out
  clear hl hcs hg ho hi hz0 hz1 hz2 hpb
  go_enter Tryz.func76, Tryz.ntmps76
  go_wp2_with fail
  refine HS.out.mono ?_
  rintro r w1 ⟨rfl, rfl⟩
  go_wp2_with (first | (at_builtin; (refine wpList_append_own _ rfl (.tmp 6) (.tmp 18) 38 rfl B 5 i0 (.int .u8 0) 1 1 Tryz.underlying38 HI.out HZ0.out HZ1.out HZ2.out rfl (by decide) _ n (u8s xs) rfl (HO.out.alloc _) ⟨w.heap.size, 0, none⟩ 4 4 (u8s (bytes4 c)) rfl rfl (four_at (by omega)) (u8s_one _) (by unfold maxLen; omega) (by omega) (by simp; omega) ?_; intro v' w2 hown2 hgrow2 hnil2; have HO2 := hid (own4 (c := c) hown2 HNX.out); have HB2 := hid ((show Below B w _ from ((Below.refl B w).alloc hB _)).grown hgrow2 (by simp; omega) HPB.out); clear hown2 hgrow2 hnil2)))
  go_ret
  exact ⟨⟨_, rfl, HO2.out⟩, HB2.out⟩
/-- slices.Equal at bytes -/
def BytesV (w : World) (v : Value) (l : List Nat) : Prop := ∃ a c, v = .slice a l.length c ∧ (l = [] ∨ ∃ b off, a = some ⟨b, off, none⟩ ∧ b < w.heap.size ∧ bytesAt w b off l.length (fun i => l.getD i 0))
theorem BytesV.still {w W : World} {v : Value} {l : List Nat} (h : BytesV w v l) (hB : Below w.heap.size w W) : BytesV W v l := by
  obtain ⟨a, c, h1, h2⟩ := h
  refine ⟨a, c, h1, ?_⟩
  rcases h2 with h2 | ⟨b, off, h3, h4, h5⟩
  · exact Or.inl h2
  · exact Or.inr ⟨b, off, h3, Nat.lt_of_lt_of_le h4 hB.size, bytes_still h5 h4 hB⟩
theorem row_bytes {w : World} {B n : Nat} {v : Value} {xs : List Nat} (h : w.ownsRow B 5 1 v n (u8s xs)) : BytesV w v xs := by
  obtain ⟨hl, hc⟩ := row_cases h
  subst hl
  rcases hc with ⟨rfl, h0⟩ | ⟨g, cap, rfl, _, _, _, hgw, hby⟩
  · exact ⟨none, 0, by rw [h0], Or.inl (List.length_eq_zero_iff.1 h0)⟩
  · exact ⟨_, _, rfl, Or.inr ⟨g, 0, rfl, hgw, hby⟩⟩
theorem OwnB.bytes {w : World} {B : Nat} {v : Value} {xs : List Nat} (h : OwnB w B v xs) : BytesV w v xs := row_bytes h.1
theorem getD_next {l m : List Nat} {k : Nat} (hl : l.length = m.length) (hs : l.take k = m.take k) (h : l.getD k 0 = m.getD k 0) (hk : k < l.length) : l.take (k + 1) = m.take (k + 1) := by
  rw [List.take_succ_eq_append_getElem hk, List.take_succ_eq_append_getElem (by omega), hs]
  rw [List.getD_eq_getElem?_getD, List.getD_eq_getElem?_getD, List.getElem?_eq_getElem hk, List.getElem?_eq_getElem (by omega)] at h
  congr 2
set_option maxRecDepth 100000 in
set_option maxHeartbeats 1600000 in
theorem bequal_any (v1 v2 : Value) (l m : List Nat) (w : World) (h1 : BytesV w v1 l) (h2 : BytesV w v2 m) (hn : l.length ≤ 9223372036854775807) :
    Calls Tryz.prog 77 #[v1, v2] w fun r w' => r = .returned (.bool (decide (l = m))) ∧ Below w.heap.size w w' := by
  obtain ⟨q, hq⟩ : ∃ q, q = decide (l = m) := ⟨_, rfl⟩
  rw [← hq]
  have HYES := hid (fun h : l = m => show q = true by rw [hq]; exact decide_eq_true h)
  have HNO := hid (fun h : l ≠ m => show q = false by rw [hq]; exact decide_eq_false h)
  obtain ⟨a1, c1, rfl, hr1⟩ := h1
  obtain ⟨a2, c2, rfl, hr2⟩ := h2
  obtain ⟨n1, hn1⟩ : ∃ n, n = l.length := ⟨_, rfl⟩
  obtain ⟨n2, hn2⟩ : ∃ n, n = m.length := ⟨_, rfl⟩
  rw [← hn1] at hn ⊢
  rw [← hn2]
  have HL := hid hn1
  have HM := hid hn2
  have H1 := hid hr1
  have H2 := hid hr2
  clear hq hn1 hn2 hr1 hr2
  by_cases hnn : n1 = n2
  · subst hnn
    go_enter Tryz.func77, Tryz.ntmps77
    go_wp2_with fail
    go_loopw [13] (fun iv W => ∃ k : Nat, k ≤ n1 ∧ iv = .int .i64 (k : Int) ∧ l.take k = m.take k ∧ Below w.heap.size w W) (fun iv _ => n1 - (intOf iv).toNat)
    case atStart => exact ⟨0, by omega, rfl, rfl, Below.refl _ _⟩
    case round =>
      obtain ⟨k, hk, rfl, hsame, hB⟩ := hrel
      have HS := hid hsame
      have HBW := hid hB
      have hzw := hB.size
      clear hsame hB
      by_cases hlt : k < n1
      · have hkl : k < l.length := by rw [← HL.out]; exact hlt
        have hkm : k < m.length := by rw [← HM.out]; exact hlt
        obtain ⟨b1, o1, rfl, hb1, hy1⟩ := H1.out.resolve_left (fun h => by rw [h] at hkl; simp at hkl)
        obtain ⟨b2, o2, rfl, hb2, hy2⟩ := H2.out.resolve_left (fun h => by rw [h] at hkm; simp at hkm)
        obtain ⟨x, hx⟩ : ∃ x, x = l.getD k 0 := ⟨_, rfl⟩
        obtain ⟨y, hy⟩ : ∃ y, y = m.getD k 0 := ⟨_, rfl⟩
        have hc1 : wr.cell? ⟨b1, o1 + k, none⟩ = some (.int .u8 (x : Nat)) := by rw [HBW.out.cell hb1, hy1 k hkl, hx]
        have hc2 : wr.cell? ⟨b2, o2 + k, none⟩ = some (.int .u8 (y : Nat)) := by rw [HBW.out.cell hb2, hy2 k hkm, hy]
        have HE := hid (fun h : x = y => getD_next (by rw [← HL.out, ← HM.out]) HS.out (by rw [← hx, ← hy]; exact h) hkl)
        have HF := hid (fun h : x ≠ y => HNO.out (fun e => h (by rw [hx, hy, e])))
        have d3 : decide ((k : Int) < (n1 : Int)) = true := decide_eq_true (by omega)
        have hk0 : (0 : Int) ≤ (k : Int) := by omega
        have a0 := fun d os => cell_regrown hc1 d os
        have b0 := fun d os => cell_regrown hc2 d os
        clear hx hy hy1 hy2 hkl hkm hb1 hb2 hc1 hc2
        by_cases hxy : x = y
        · have HX := hid (HE.out hxy)
          have d4 : ((x : Int) == (y : Int)) = true := by simp [hxy]
          clear hxy HE HF
          go_wp2_with fail
          refine wp_region_quiet_below (by kernel_rfl) (by kernel_rfl) ?_
          repeat (first | go_big_quiet_step (fail) | quiet_step (fail))
          refine wpQuiet_nil ?_
          intro _ hw'
          obtain ⟨⟨dqV, osV⟩, hw2⟩ := hw'
          subst hw2
          have HQV := hid (below_regrown wr dqV osV)
          generalize Sort.grow (redrawn wr dqV) osV = V at HQV ⊢
          have hsV := HQV.out.size
          have HB3 := hid (HBW.out.trans (HQV.out.mono hzw))
          clear a0 b0
          go_wp2_with fail
          exact ⟨⟨k + 1, by omega, by go_num, HX.out, HB3.out⟩, by simp [intOf]; omega⟩
        · have HX := hid (HF.out hxy)
          have d4 : ((x : Int) == (y : Int)) = false := beq_false_of_ne (fun e => hxy (by omega))
          clear hxy HE HF
          go_wp2_with fail
          refine wp_region_quiet_below (by kernel_rfl) (by kernel_rfl) ?_
          repeat (first | go_big_quiet_step (fail) | quiet_step (fail))
          refine wpQuiet_nil ?_
          intro _ hw'
          obtain ⟨⟨dqV, osV⟩, hw2⟩ := hw'
          subst hw2
          have HQV := hid (below_regrown wr dqV osV)
          generalize Sort.grow (redrawn wr dqV) osV = V at HQV ⊢
          have hsV := HQV.out.size
          have HB3 := hid (HBW.out.trans (HQV.out.mono hzw))
          clear a0 b0
          go_wp2_with fail
          go_ret
          exact ⟨by rw [HX.out]; rfl, HB3.out⟩
      · obtain rfl : k = n1 := by omega
        have HX := hid (HYES.out (by
          have h := HS.out
          rw [List.take_of_length_le (by rw [← HL.out]; exact Nat.le_refl _), List.take_of_length_le (by rw [← HM.out]; exact Nat.le_refl _)] at h
          exact h))
        have d3 : decide ((k : Int) < (k : Int)) = false := by simp
        go_wp2_with fail
        go_ret
        exact ⟨by rw [HX.out]; rfl, HBW.out⟩
  · have d0 : ((n1 : Int) == (n2 : Int)) = false := beq_false_of_ne (by omega)
    have HF := hid (HNO.out (fun h => hnn (by rw [HL.out, HM.out, h])))
    clear hnn
    go_enter Tryz.func77, Tryz.ntmps77
    go_wp2_with fail
    go_ret
    exact ⟨by rw [HF.out]; rfl, Below.refl _ _⟩

theorem in_any (a b c : Int) (w : World) :
    Calls Tryz.prog 55 #[.int .i64 a, .int .i64 b, .int .i64 c] w fun e w' => e = .returned (.bool (inB b c a)) ∧ w = w' := by
  by_cases h1 : b ≤ a <;> by_cases h2 : a ≤ c
  all_goals
    go_enter Tryz.func55, Tryz.ntmps55
    go_wp2
    go_ret
    simp [inB, *]
set_option maxRecDepth 100000 in
set_option maxHeartbeats 1600000 in
theorem goods_some (b off n c : Nat) (F : Nat → Nat → Int) (w : World) (hn0 : 0 < n) (hnm : n ≤ maxLen) (hbw : b < w.heap.size) (hr : recs9 w b off n F) :
    Calls Tryz.prog 68 #[.slice (some ⟨b, off, none⟩) n c] w fun r w' => r = .returned (.bool (goodV F n)) ∧ Below w.heap.size w w' := by
  have HC := hid hr
  clear hr
  have hnm' : n ≤ 9223372036854775807 := by unfold maxLen at hnm; omega
  clear hnm
  go_enter Tryz.func68, Tryz.ntmps68
  go_wp2_with fail
  go_loopw [7] (fun iv W => ∃ k : Nat, k ≤ n ∧ iv = .int .i64 (k : Int) ∧ allN (clsB F) k = true ∧ Below w.heap.size w W) (fun iv _ => n - (intOf iv).toNat)
  case atStart => exact ⟨0, by omega, rfl, rfl, Below.refl _ _⟩
  case round =>
    obtain ⟨k, hk, rfl, hall, hB⟩ := hrel
    have HBwr := hid hB
    have hzwr := hB.size
    have HA := hid hall
    clear hall
    by_cases hlt : k < n
    · have hcs := HC.out.still hB hbw k hlt
      have c0 := hcs 0 (by decide)
      have c1 := hcs 1 (by decide)
      have c2 := hcs 2 (by decide)
      have c3 := hcs 3 (by decide)
      have c4 := hcs 4 (by decide)
      have c5 := hcs 5 (by decide)
      have c6 := hcs 6 (by decide)
      have c7 := hcs 7 (by decide)
      have c8 := hcs 8 (by decide)
      rw [Nat.add_zero] at c0
      have HBAD := hid (fun h : inB 0 255 (F k 8) = false => show goodV F n = false by unfold goodV; rw [allN_stop hlt (by unfold clsB; exact h)]; rfl)
      have HYES := hid (fun h : inB 0 255 (F k 8) = true => allN_next HA.out (show clsB F k = true by unfold clsB; exact h))
      clear hB hcs
      generalize F k 0 = p0 at *
      generalize F k 1 = p1 at *
      generalize F k 2 = p2 at *
      generalize F k 3 = p3 at *
      generalize F k 4 = p4 at *
      generalize F k 5 = p5 at *
      generalize F k 6 = p6 at *
      generalize F k 7 = p7 at *
      generalize F k 8 = p8 at *
      cases hq : inB 0 255 p8
      · have HX := hid (HBAD.out hq)
        go_wp2_with fail
        refine (in_any _ _ _ _).mono ?_
        rintro r w1 ⟨rfl, rfl⟩
        rw [hq]
        go_wp2_with fail
        go_ret
        exact ⟨by rw [HX.out]; rfl, HBwr.out.alloc hzwr _⟩
      · have HX := hid (HYES.out hq)
        go_wp2_with fail
        refine (in_any _ _ _ _).mono ?_
        rintro r w1 ⟨rfl, rfl⟩
        rw [hq]
        go_wp2_with fail
        exact ⟨⟨k + 1, by omega, by go_num, HX.out, HBwr.out.alloc hzwr _⟩, by simp [intOf]; omega⟩
    · obtain rfl : k = n := by omega
      have HV := hid (show goodV F k = validV F k by unfold goodV; rw [HA.out]; rfl)
      have HRC := hid (HC.out.still hB hbw)
      clear hB
      go_wp2_with fail
      refine (valid_any b off k c F wr hn0 (by omega) HRC.out).mono ?_
      rintro r w1 ⟨rfl, hb⟩
      go_wp2_with fail
      go_ret
      exact ⟨by rw [HV.out]; rfl, HBwr.out.trans (hb.mono hzwr)⟩
theorem goods_none (a : Option Addr) (c : Nat) (w : World) :
    Calls Tryz.prog 68 #[.slice a 0 c] w fun r w' => r = .returned (.bool true) ∧ Below w.heap.size w w' := by
  go_enter Tryz.func68, Tryz.ntmps68
  go_wp2_with fail
  refine wp_loop_rounds 1 ?_
  rw [rounds_succ]
  go_wp2_with fail
  refine (valid_none _ _ _).mono ?_
  rintro r w1 ⟨rfl, hb⟩
  go_wp2_with fail
  go_ret
  exact ⟨rfl, hb⟩
theorem goods_any (pv : Value) (S : List Pt) (w : World) (hp : PtsV w pv S) (hn : S.length ≤ maxLen) : Calls Tryz.prog 68 #[pv] w fun r w' => r = .returned (.bool (goodL S)) ∧ Below w.heap.size w w' := by
  obtain ⟨a, cap, rfl, h⟩ := hp
  by_cases hl : S = []
  · subst hl
    exact goods_none a cap w
  · obtain ⟨b, off, rfl, hb, hr⟩ := h.resolve_left hl
    exact goods_some b off S.length cap _ w (List.length_pos_iff.2 hl) hn hb (rows_recs hr)
set_option maxRecDepth 100000 in
theorem pbyId_any (p q : Pt) (W : World) : Calls Tryz.prog 71 #[.agg p.row.toArray, .agg q.row.toArray] W fun e w' => e = .returned (.int .i64 (cmpI p q)) ∧ Grew W w' := by
  have HV := hid (show cmpI p q = wrap64 (p.id - q.id) from rfl)
  unfold Pt.row
  generalize p.id = a at *
  generalize q.id = b at *
  go_enter Tryz.func71, Tryz.ntmps71
  go_wp2_with fail
  go_ret
  exact ⟨by rw [HV.out]; rfl, (by repeat' (first | exact Grew.refl _ | refine Grew.alloc ?_ _ | refine Grew.drewN ?_ _))⟩
theorem psortId_any (v : Value) (l : List Pt) (base : Nat) (W : World) (h : OwnR W base 109 9 v (l.map Pt.row)) (hn : l.length < 4611686018427387904) (hid : ∀ p ∈ l, 0 ≤ p.id ∧ p.id ≤ 1152921504606846976) :
    Calls Tryz.prog 70 #[v, .func (.func 71) #[] #[]] W fun e w' => e = .returned (.tuple #[]) ∧ ∃ l' : List Pt, l'.Perm l ∧ l'.Pairwise (fun p q => ¬ q.id < p.id) ∧ OwnR w' base 109 9 v (l'.map Pt.row) ∧ W.grownBy w' v.ownBlock := by
  obtain ⟨lg, hlg⟩ : ∃ lg : List PtG, lg.map (·.1) = l := ⟨_, pmap_val l hid⟩
  subst hlg
  rw [List.length_map] at hn
  have h' : OwnR W base 109 9 v (lg.map (fun p : PtG => p.1.row)) := by rw [List.map_map] at h; exact h
  have hc := sort_own sortPtL 9 Tryz.isAgg109 Tryz.sizeOf109 (fun p : PtG => p.1.row) (fun _ => rfl) (fun p => Pt.row_one p.1) (fun x y : PtG => cmpI x.1 y.1) cmpI_swo 71 #[] (enters_of Tryz.func71 (by kernel_rfl) rfl) (fun _ _ _ _ _ _ _ x y => pbyId_any x.1 y.1 _) W base 109 v lg h' hn
  refine Calls.mono (show Calls Tryz.prog 70 _ _ _ from hc) ?_
  rintro e w' ⟨rfl, l', h1, h2, h3, h4⟩
  refine ⟨rfl, l'.map (·.1), h1.map _, ?_, by rw [List.map_map]; exact h3, h4⟩
  rw [List.pairwise_map]
  refine h2.imp ?_
  intro a b hab
  rw [cmpI_lt] at hab
  simpa using hab
end Go.Proofs.YtpfighhhemnhaaaGreat

