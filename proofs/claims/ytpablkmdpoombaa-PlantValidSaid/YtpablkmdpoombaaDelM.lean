/- Deliveries in plain Lean: their bytes, what the plant and the reference read of them, and that both are the same. No program in sight. -/
import Derived.Test.YtpablkmdpoombaaRp
namespace Go.Proofs.Ytpablkmdpoombaa
open Go.RowKit

/-- one point read by the plant -/
def ptY (l : Int) (s : St) : Pt × St :=
  let r0 := nextS false s
  let r1 := nextS true r0.2
  let r2 := nextS true r1.2
  let r3 := nextS true r2.2
  let r4 := nextS false r3.2
  let r5 := nextS false r4.2
  let r6 := nextS false r5.2
  let r7 := nextS false r6.2
  let r8 := nextS false r7.2
  (⟨l + r0.1, r1.1, r2.1, r3.1, r3.1 + r4.1, r5.1, r6.1, r7.1, r8.1⟩, if 1152921504606846976 < l + r0.1 ∨ 268435456 < r3.1 + r4.1 then r8.2.mark else r8.2)
def ptsY : Nat → Int → St → List Pt × St
  | 0, _, s => ([], s)
  | f + 1, l, s => if (ptY l s).2.bad = true then ([], (ptY l s).2) else ((ptY l s).1 :: (ptsY f (ptY l s).1.id (ptY l s).2).1, (ptsY f (ptY l s).1.id (ptY l s).2).2)
theorem ptsY_bad {f : Nat} {l : Int} {s : St} {p : Pt} {s' : St} (hp : ptY l s = (p, s')) (h : s'.bad = true) : ptsY (f + 1) l s = ([], s') := by
  show (if (ptY l s).2.bad = true then _ else _) = _
  rw [hp, if_pos h]
theorem ptsY_next {f : Nat} {l : Int} {s : St} {p : Pt} {s' : St} (hp : ptY l s = (p, s')) (h : s'.bad = false) : ptsY (f + 1) l s = (p :: (ptsY f p.id s').1, (ptsY f p.id s').2) := by
  show (if (ptY l s).2.bad = true then _ else _) = _
  rw [hp, if_neg (by simp [h])]
def delY (s : St) : List Pt × St := ptsY (nextS false s).1.toNat 0 (nextS false s).2
def delR (s : St) : List Pt × St := ptsR (if (nextS false s).1 < 1025 then (nextS false s).1 else 1025).toNat 0 (nextS false s).2
def Asc (P : List Pt) : Prop := P.Pairwise (fun p q => p.id < q.id)
/-- the bytes of a delivery ahead of its checksum -/
def encDB (P : List Pt) : List Nat := encs encU [(P.length : Int)] ++ encPs 0 P
def encD (P : List Pt) : List Nat := encDB P ++ bytes4 (crcL (encDB P))

theorem asc_of {P : List Pt} (h : P.Pairwise (fun p q => p.id ≤ q.id)) (hg : goodL P = true) : Asc P := by
  have h2 := ((goodL_iff P).1 hg).2.2
  exact (h.and h2).imp (fun ⟨a, b⟩ => by omega)
theorem asc_sorted {S L : List Pt} (hg : goodL S = true) (hp : L.Perm S) (ho : L.Pairwise (fun p q => ¬ q.id < p.id)) : Asc L :=
  asc_of (ho.imp (fun h => by omega)) (goodL_perm hp.symm hg)
theorem asc_unique {L M : List Pt} (hL : Asc L) (hM : Asc M) (h : L.Perm M) : L = M :=
  sorted_same (r := fun p q : Pt => p.id < q.id) (fun _ h => Int.lt_irrefl _ h) (fun _ _ _ h1 h2 => Int.lt_trans h1 h2) hL hM (fun _ => h.mem_iff)
theorem ptY_inv {l : Int} {b : List Nat} {p : Pt} {s' : St} (hl : ∀ x ∈ b, x < 256) (h : ptY l (stL b) = (p, s')) (hb : s'.bad = false) :
    ∃ r, b = encP l p ++ r ∧ s' = stL r ∧ (∀ x ∈ r, x < 256) ∧ l ≤ p.id := by
  rcases e0 : nextS false (stL b) with ⟨v0, t1⟩
  rcases e1 : nextS true t1 with ⟨v1, t2⟩
  rcases e2 : nextS true t2 with ⟨v2, t3⟩
  rcases e3 : nextS true t3 with ⟨v3, t4⟩
  rcases e4 : nextS false t4 with ⟨v4, t5⟩
  rcases e5 : nextS false t5 with ⟨v5, t6⟩
  rcases e6 : nextS false t6 with ⟨v6, t7⟩
  rcases e7 : nextS false t7 with ⟨v7, t8⟩
  rcases e8 : nextS false t8 with ⟨v8, t9⟩
  have q0 := nextU_range (stL b)
  rw [e0] at q0
  simp only at q0
  unfold ptY at h
  simp only [e0, e1, e2, e3, e4, e5, e6, e7, e8] at h
  injection h with hp hs
  have b9 : t9.bad = false ∧ s' = t9 := by
    by_cases hbig : 1152921504606846976 < l + v0 ∨ 268435456 < v3 + v4
    · rw [if_pos hbig] at hs
      subst hs
      exact absurd hb (by simp [St.mark])
    · rw [if_neg hbig] at hs
      subst hs
      exact ⟨hb, rfl⟩
  have b8 := next_keep e8 b9.1
  have b7 := next_keep e7 b8
  have b6 := next_keep e6 b7
  have b5 := next_keep e5 b6
  have b4 := next_keep e4 b5
  have b3 := next_keep e3 b4
  have b2 := next_keep e2 b3
  have b1 := next_keep e1 b2
  obtain ⟨r0, q0', rfl, k0⟩ := nextU_inv hl e0 b1
  obtain ⟨r1, q1, rfl, k1⟩ := nextI_inv k0 e1 b2
  obtain ⟨r2, q2, rfl, k2⟩ := nextI_inv k1 e2 b3
  obtain ⟨r3, q3, rfl, k3⟩ := nextI_inv k2 e3 b4
  obtain ⟨r4, q4, rfl, k4⟩ := nextU_inv k3 e4 b5
  obtain ⟨r5, q5, rfl, k5⟩ := nextU_inv k4 e5 b6
  obtain ⟨r6, q6, rfl, k6⟩ := nextU_inv k5 e6 b7
  obtain ⟨r7, q7, rfl, k7⟩ := nextU_inv k6 e7 b8
  obtain ⟨r8, q8, rfl, k8⟩ := nextU_inv k7 e8 b9.1
  refine ⟨r8, ?_, b9.2, k8, by rw [← hp]; show l ≤ l + v0; omega⟩
  rw [encP_list, ← hp]
  simp only
  rw [show l + v0 - l = v0 by omega, show v3 + v4 - v3 = v4 by omega, ← q8, ← q7, ← q6, ← q5, ← q4, ← q3, ← q2, ← q1, ← q0']
theorem ptsY_inv : ∀ (f : Nat) (l : Int) (b : List Nat), (∀ x ∈ b, x < 256) → (ptsY f l (stL b)).2.bad = false →
    ∃ r, b = encPs l (ptsY f l (stL b)).1 ++ r ∧ (ptsY f l (stL b)).2 = stL r ∧ (ptsY f l (stL b)).1.length = f ∧ (∀ p ∈ (ptsY f l (stL b)).1, l ≤ p.id) ∧ (ptsY f l (stL b)).1.Pairwise (fun p q => p.id ≤ q.id)
  | 0, _, b, _, _ => ⟨b, rfl, rfl, rfl, fun p hp => by simp [ptsY] at hp, List.Pairwise.nil⟩
  | f + 1, l, b, hl, hb => by
    rcases hp : ptY l (stL b) with ⟨p, s'⟩
    cases hs : s'.bad with
    | true =>
      rw [ptsY_bad hp hs] at hb
      exact absurd (hb.symm.trans hs) (by decide)
    | false =>
      rw [ptsY_next hp hs] at hb ⊢
      obtain ⟨r, h1, h2, h3, h0⟩ := ptY_inv hl hp hs
      rw [h2] at hb ⊢
      obtain ⟨r', h4, h5, h6, h7, h8⟩ := ptsY_inv f p.id r h3 hb
      refine ⟨r', ?_, h5, by simp [h6], ?_, List.pairwise_cons.2 ⟨h7, h8⟩⟩
      · show b = (encP l p ++ encPs p.id _) ++ r'
        rw [List.append_assoc, ← h4]
        exact h1
      · intro q hq
        rcases List.mem_cons.1 hq with rfl | hq
        · exact h0
        · have := h7 q hq
          omega
theorem ptR_mono {l : Int} {s : St} {p : Pt} {s' : St} (h : ptR l s = (p, s')) : l ≤ p.id := by
  have q0 := nextU_range s
  have h1 := congrArg (fun x => x.1.id) h
  have h2 : l + (nextS false s).1 = p.id := h1
  omega
theorem ptsR_mono : ∀ (f : Nat) (l : Int) (s : St), (∀ p ∈ (ptsR f l s).1, l ≤ p.id) ∧ (ptsR f l s).1.Pairwise (fun p q => p.id ≤ q.id)
  | 0, _, _ => ⟨fun p hp => by simp [ptsR] at hp, List.Pairwise.nil⟩
  | f + 1, l, s => by
    cases hs : s.bad with
    | true =>
      rw [ptsR_bad _ _ _ hs]
      exact ⟨fun p hp => by simp at hp, List.Pairwise.nil⟩
    | false =>
      rcases hp : ptR l s with ⟨p, s'⟩
      rw [ptsR_next hs hp]
      obtain ⟨h1, h2⟩ := ptsR_mono f p.id s'
      have h0 := ptR_mono hp
      refine ⟨fun q hq => ?_, List.pairwise_cons.2 ⟨h1, h2⟩⟩
      rcases List.mem_cons.1 hq with rfl | hq
      · exact h0
      · have := h1 q hq
        omega
theorem ptY_back {l : Int} {p : Pt} (h : NumP l p) (r : List Nat) : ptY l (stL (encP l p ++ r)) = (p, stL r) := by
  rw [encP_list]
  have a0 := next_back (p.id - l) (encS p.x ++ (encS p.y ++ (encS p.zl ++ (encU (p.zh - p.zl) ++ (encU p.wd ++ (encU p.nm ++ (encU p.of ++ (encU p.cl ++ r)))))))) (by have := h.id; omega)
  have a1 := nextS_back p.x (encS p.y ++ (encS p.zl ++ (encU (p.zh - p.zl) ++ (encU p.wd ++ (encU p.nm ++ (encU p.of ++ (encU p.cl ++ r))))))) (by have := h.x; omega)
  have a2 := nextS_back p.y (encS p.zl ++ (encU (p.zh - p.zl) ++ (encU p.wd ++ (encU p.nm ++ (encU p.of ++ (encU p.cl ++ r)))))) (by have := h.y; omega)
  have a3 := nextS_back p.zl (encU (p.zh - p.zl) ++ (encU p.wd ++ (encU p.nm ++ (encU p.of ++ (encU p.cl ++ r))))) (by have := h.z; omega)
  have a4 := next_back (p.zh - p.zl) (encU p.wd ++ (encU p.nm ++ (encU p.of ++ (encU p.cl ++ r)))) (by have := h.z; have := h.h; omega)
  have a5 := next_back p.wd (encU p.nm ++ (encU p.of ++ (encU p.cl ++ r))) (by have := h.wd; omega)
  have a6 := next_back p.nm (encU p.of ++ (encU p.cl ++ r)) (by have := h.nm; omega)
  have a7 := next_back p.of (encU p.cl ++ r) (by have := h.of; omega)
  have a8 := next_back p.cl r (by have := h.cl; omega)
  unfold ptY
  simp only [a0, a1, a2, a3, a4, a5, a6, a7, a8]
  have e1 : l + (p.id - l) = p.id := by omega
  have e2 : p.zl + (p.zh - p.zl) = p.zh := by omega
  rw [e1, e2, if_neg (by have := h.i; have := h.h; omega)]
theorem ptsY_back : ∀ (l : Int) (P : List Pt), NumF l P → ∀ r, ptsY P.length l (stL (encPs l P ++ r)) = (P, stL r)
  | _, [], _, r => rfl
  | l, p :: P, h, r => by
    have h1 := ptY_back h.1 (encPs p.id P ++ r)
    have h2 := ptsY_next (f := P.length) h1 (stL_bad _)
    rw [show encPs l (p :: P) ++ r = encP l p ++ (encPs p.id P ++ r) from List.append_assoc _ _ _, List.length_cons, h2, ptsY_back p.id P h.2 r]
theorem encDB_list (P : List Pt) (r : List Nat) : encDB P ++ r = encU (P.length : Int) ++ (encPs 0 P ++ r) := by simp [encDB, encs]
theorem good_numF {P : List Pt} (hg : goodL P = true) (ha : Asc P) : NumF 0 P := numF_of 0 P (nums_ok hg ha)
theorem delY_back {P : List Pt} (hg : goodL P = true) (ha : Asc P) (r : List Nat) : nextS false (stL (encDB P ++ r)) = ((P.length : Int), stL (encPs 0 P ++ r)) ∧ delY (stL (encDB P ++ r)) = (P, stL r) := by
  rw [encDB_list]
  have hl := ((goodL_iff P).1 hg).1
  have a4 := next_back (P.length : Int) (encPs 0 P ++ r) (by omega)
  refine ⟨a4, ?_⟩
  unfold delY
  rw [a4]
  simp only
  rw [Int.toNat_natCast, ptsY_back 0 P (good_numF hg ha) r]
theorem delR_back {P : List Pt} (hg : goodL P = true) (ha : Asc P) (r : List Nat) : delR (stL (encDB P ++ r)) = (P, stL r) := by
  rw [encDB_list]
  have hl := ((goodL_iff P).1 hg).1
  have a4 := next_back (P.length : Int) (encPs 0 P ++ r) (by omega)
  unfold delR
  rw [a4]
  simp only
  rw [if_pos (by omega), Int.toNat_natCast, ptsR_back 0 P (good_numF hg ha) r]
/-- what the plant accepts -/
def OkY (l : List Nat) (n : Nat) : Prop := SumOk l n ∧ (nextS false (stL (l.take n))).1 ≤ 1024 ∧ (delY (stL (l.take n))).2.bad = false ∧ (delY (stL (l.take n))).2.m = 0 ∧ goodL (delY (stL (l.take n))).1 = true
theorem delY_inv {b : List Nat} (hl : ∀ x ∈ b, x < 256) (hb : (delY (stL b)).2.bad = false) (hm : (delY (stL b)).2.m = 0) : b = encDB (delY (stL b)).1 ∧ (delY (stL b)).1.Pairwise (fun p q => p.id ≤ q.id) := by
  rcases e0 : nextS false (stL b) with ⟨v0, t1⟩
  have q0 := nextU_range (stL b)
  rw [e0] at q0
  simp only at q0
  have hx : delY (stL b) = ptsY v0.toNat 0 t1 := by unfold delY; rw [e0]
  rw [hx] at hb hm ⊢
  have b1 : t1.bad = false := by
    cases hs : t1.bad with
    | false => rfl
    | true =>
      cases hn : v0.toNat with
      | zero =>
        rw [hn] at hb
        exact absurd (hb.symm.trans hs) (by decide)
      | succ f =>
        rcases hp : ptY 0 t1 with ⟨p, s'⟩
        have hs' : s'.bad = true := by
          have k1 := nextS_keeps false _ hs
          have k2 := nextS_keeps true _ k1
          have k3 := nextS_keeps true _ k2
          have k4 := nextS_keeps true _ k3
          have k5 := nextS_keeps false _ k4
          have k6 := nextS_keeps false _ k5
          have k7 := nextS_keeps false _ k6
          have k8 := nextS_keeps false _ k7
          have k9 := nextS_keeps false _ k8
          have h2 := congrArg (fun x => x.2.bad) hp
          simp only at h2
          rw [← h2]
          unfold ptY
          simp only
          split
          · rfl
          · exact k9
        rw [hn, ptsY_bad hp hs'] at hb
        exact absurd (hb.symm.trans hs') (by decide)
  obtain ⟨r0, q0', rfl, k0⟩ := nextU_inv hl e0 b1
  obtain ⟨r, h1, h2, h3, _, h5⟩ := ptsY_inv v0.toNat 0 r0 k0 hb
  rw [h2] at hm
  have hr : r = [] := List.length_eq_zero_iff.1 hm
  subst hr
  refine ⟨?_, h5⟩
  have he := encDB_list (ptsY v0.toNat 0 (stL r0)).1 []
  rw [List.append_nil] at he
  rw [he, h3, show ((v0.toNat : Nat) : Int) = v0 by omega, ← h1]
  exact q0'
theorem okY_iff {l : List Nat} (hl : ∀ x ∈ l, x < 256) {n : Nat} (hn : l.length = n + 4) {P : List Pt} : (OkY l n ∧ (delY (stL (l.take n))).1 = P) ↔ (goodL P = true ∧ Asc P ∧ l = encD P) := by
  constructor
  · rintro ⟨⟨h1, _, h2, h3, h4⟩, rfl⟩
    have h5 := delY_inv (fun x hx => hl x (List.mem_of_mem_take hx)) h2 h3
    refine ⟨h4, asc_of h5.2 h4, ?_⟩
    have h6 := (sumOk_iff hl hn).1 h1
    unfold encD
    rw [← h5.1]
    exact h6
  · rintro ⟨h1, h0, h2⟩
    have hlen : n = (encDB P).length := by
      have : l.length = (encDB P).length + 4 := by rw [h2]; simp [encD, bytes4]
      omega
    have htake : l.take n = encDB P := by
      rw [h2, hlen]
      exact List.take_left
    have hb := delY_back h1 h0 []
    rw [List.append_nil] at hb
    have hl4 := ((goodL_iff P).1 h1).1
    refine ⟨⟨(sumOk_iff hl hn).2 ?_, ?_, ?_, ?_, ?_⟩, ?_⟩
    · rw [htake]; exact h2
    · rw [htake, hb.1]; show (P.length : Int) ≤ 1024; omega
    · rw [htake, hb.2]; rfl
    · rw [htake, hb.2]; rfl
    · rw [htake, hb.2]; exact h1
    · rw [htake, hb.2]
/-- what the reference accepts -/
def OkD (l : List Nat) : Prop := (delR (stL l)).2.bad = false ∧ goodL (delR (stL l)).1 = true ∧ encD (delR (stL l)).1 = l
theorem delR_asc {l : List Nat} (h : goodL (delR (stL l)).1 = true) : Asc (delR (stL l)).1 := asc_of (ptsR_mono _ _ _).2 h
theorem okD_iff {l : List Nat} {P : List Pt} : (OkD l ∧ (delR (stL l)).1 = P) ↔ (goodL P = true ∧ Asc P ∧ l = encD P) := by
  constructor
  · rintro ⟨⟨_, h2, h3⟩, rfl⟩
    exact ⟨h2, delR_asc h2, h3.symm⟩
  · rintro ⟨h1, h0, rfl⟩
    have hb' : delR (stL (encD P)) = (P, stL (bytes4 (crcL (encDB P)))) := delR_back h1 h0 (bytes4 (crcL (encDB P)))
    unfold OkD
    rw [hb']
    exact ⟨⟨rfl, h1, rfl⟩, rfl⟩
theorem okD_both {l : List Nat} (hl : ∀ x ∈ l, x < 256) {n : Nat} (hn : l.length = n + 4) : (OkY l n ∧ OkD l ∧ (delY (stL (l.take n))).1 = (delR (stL l)).1) ∨ (¬ OkY l n ∧ ¬ OkD l) := by
  by_cases h : OkY l n
  · have h1 := (okY_iff hl hn).1 ⟨h, rfl⟩
    have h2 := okD_iff.2 h1
    exact Or.inl ⟨h, h2.1, h2.2.symm⟩
  · refine Or.inr ⟨h, fun hr => h ?_⟩
    exact ((okY_iff hl hn).2 (okD_iff.1 ⟨hr, rfl⟩)).1
theorem encD_long (P : List Pt) : 5 ≤ (encD P).length := by
  have h0 := encN_pos P.length
  have h : encDB P = encN (P.length : Int).toNat ++ encPs 0 P := by simp [encDB, encs, encU]
  unfold encD
  rw [h]
  simp [bytes4]
  omega
theorem encDB_byte (P : List Pt) : ∀ x ∈ encDB P, x < 256 := app_byte (encs_byte encU_byte _) (encPs_byte _ _)
theorem encD_byte (P : List Pt) : ∀ x ∈ encD P, x < 256 := app_byte (encDB_byte _) (by intro x hx; simp [bytes4] at hx; omega)
theorem okD_short {l : List Nat} (h : l.length < 5) : ¬ OkD l := fun ⟨_, _, h3⟩ => by
  have := encD_long (delR (stL l)).1
  rw [h3] at this
  omega
theorem encDB_len {P : List Pt} (hg : goodL P = true) (ha : Asc P) : 0 < (encDB P).length ∧ (encDB P).length ≤ 90000 := by
  have hl := ((goodL_iff P).1 hg).1
  have h1 := encPs_len (nums_ok hg ha) P.length (Nat.le_refl _)
  rw [List.take_length] at h1
  have h3 := encs_len (f := encU) (m := 9) [(P.length : Int)] (fun z hz => nat_len (by simp at hz; omega))
  have h4 := encD_long P
  simp at h3
  unfold encD at h4
  unfold encDB at *
  simp [bytes4] at h4 ⊢
  omega
/-- a change of one byte is seen -/
theorem sumOk_changed {B : List Nat} (hlt : ∀ x ∈ B, x < 256) {c : List Nat} (hc : ∀ x ∈ c, x < 256) {n : Nat} (hn : c.length = n + 4) (hlen : c.length = (B ++ bytes4 (crcL B)).length) {i : Nat}
    (hne : c.getD i 0 ≠ (B ++ bytes4 (crcL B)).getD i 0) (hi : i < c.length) (hs : ∀ j, j ≠ i → c.getD j 0 = (B ++ bytes4 (crcL B)).getD j 0) : ¬ SumOk c n := fun e2 => by
  have hb : n = B.length := by
    have : (B ++ bytes4 (crcL B)).length = B.length + 4 := by simp [bytes4]
    omega
  unfold SumOk at e2
  have hold : crcL B = crcV (fun i => (B ++ bytes4 (crcL B)).getD i 0) n := by
    rw [crcL_take (B ++ bytes4 (crcL B)) (by omega), hb]
    congr 1
    exact (List.take_left).symm
  by_cases hin : i < n
  · have hsame : (be (fun j => c.getD (n + j) 0) 4).toNat = crcL B := by
      refine be4 (crcL_lt _) ?_ ?_ ?_ ?_ <;> (show c.getD _ 0 = _; rw [hs _ (by omega), hb, List.getD_eq_getElem?_getD, List.getElem?_append_right (by omega)]; simp [bytes4])
    rw [hsame, hold] at e2
    have hb1 := bytesP_one (g := fun j => c.getD j 0) (h := fun j => (B ++ bytes4 (crcL B)).getD j 0) (fun j => getD_byte hc j) (fun j => getD_byte (app_byte hlt (by intro x hx; simp [bytes4] at hx; omega)) j) (j := i) hne hs n hin
    apply hb1
    unfold crcV at e2
    have e3 := BitVec.eq_of_toNat_eq e2
    have e4 := congrArg (fun x => ~~~ x) e3
    simpa using e4.symm
  · have hsame : crcV (fun j => c.getD j 0) n = crcL B := by
      rw [hold]
      unfold crcV
      rw [bytesP_congr n (fun j hj => hs j (by omega))]
    rw [hsame] at e2
    obtain ⟨h0, h1, h2, h3⟩ := be4_inv (g := fun j => c.getD (n + j) 0) (fun j => getD_byte hc (n + j)) e2
    apply hne
    obtain ⟨k, hk, rfl⟩ : ∃ k, k < 4 ∧ i = n + k := ⟨i - n, by omega, by omega⟩
    have hr : (B ++ bytes4 (crcL B)).getD (n + k) 0 = (bytes4 (crcL B)).getD k 0 := by
      rw [hb, List.getD_eq_getElem?_getD, List.getD_eq_getElem?_getD, List.getElem?_append_right (by omega)]
      congr 2
      omega
    rw [hr]
    match k, hk with
    | 0, _ => rw [h0]; rfl
    | 1, _ => rw [h1]; rfl
    | 2, _ => rw [h2]; rfl
    | 3, _ => rw [h3]; rfl
end Go.Proofs.Ytpablkmdpoombaa
