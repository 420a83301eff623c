/- What the readers read back from what the writers have written, and the other way round. No program in sight. -/
import Derived.Test.YteanlcefdoigcaaDecY
namespace Go.Proofs.Yteanlcefdoigcaa
open Go.RowKit

/- reading back -/
theorem rd_back (g : Nat → Nat) (n z : Nat) (hz : z ≤ 4611686018427387903) : ∀ (f q i : Nat), (∀ j, j < (encN q).length → g (i + j) = (encN q).getD j 0) → i + (encN q).length ≤ n → (encN q).length ≤ f →
    val7 g i + 128 ^ i * q = z → (i = 0 ∨ q ≠ 0) → rd g n f i = (((z : Nat) : Int), ((i + (encN q).length : Nat) : Int), 0)
  | 0, q, i, _, _, hf, _, _ => by have := encN_pos q; omega
  | f + 1, q, i, hg, hn, hf, hv, hq => by
    have hp := encN_pos q
    have h0 := hg 0 hp
    rw [Nat.add_zero] at h0
    unfold rd
    rw [if_neg (by omega)]
    by_cases h : 128 ≤ q
    · have he := encN_more h
      rw [he] at h0 hn hf hg ⊢
      rw [show ((q % 128 + 128) :: encN (q / 128)).getD 0 0 = q % 128 + 128 from rfl] at h0
      rw [if_pos (by omega)]
      have hv1 : val7 g (i + 1) = val7 g i + q % 128 * 128 ^ i := by
        show val7 g i + g i % 128 * 128 ^ i = _
        rw [h0, show (q % 128 + 128) % 128 = q % 128 by omega]
      have hr := rd_back g n z hz f (q / 128) (i + 1) (fun j hj => by
          have := hg (j + 1) (by simpa using hj)
          rw [show i + 1 + j = i + (j + 1) by omega]
          simpa using this) (by simp at hn; omega) (by simp at hf; omega) (by
          rw [hv1, Nat.pow_succ, ← hv]
          have : q = 128 * (q / 128) + q % 128 := by omega
          generalize 128 ^ i = P at *
          generalize q / 128 = a at *
          generalize q % 128 = b at *
          subst this
          rw [Nat.mul_add, Nat.mul_comm b P, Nat.mul_assoc P 128 a]
          omega) (Or.inr (by omega))
      rw [hr]
      simp
      omega
    · have he := encN_last h
      rw [he] at h0 hn hf hg ⊢
      rw [show [q].getD 0 0 = q from rfl] at h0
      have hv1 : val7 g (i + 1) = z := by
        show val7 g i + g i % 128 * 128 ^ i = _
        rw [h0, show q % 128 = q by omega, ← hv, Nat.mul_comm]
      rw [if_neg (by omega), if_neg (by rw [h0, hv1]; omega), hv1]
      simp
theorem readV_back (z : Nat) (r : List Nat) (hz : z ≤ 4611686018427387903) : readV (fun i => (encN z ++ r).getD i 0) (encN z ++ r).length = (((z : Nat) : Int), ((encN z).length : Int), 0) := by
  have h := rd_back (fun i => (encN z ++ r).getD i 0) (encN z ++ r).length z hz 9 z 0 (fun j hj => by
    simp only [Nat.zero_add]
    rw [List.getD_eq_getElem?_getD, List.getD_eq_getElem?_getD, List.getElem?_append_left hj]) (by simp) (encN_len 8 z (by omega)) (by simp [val7]) (Or.inl rfl)
  unfold readV
  rw [h]
  simp
theorem shift_back (x r : List Nat) : (fun i => (x ++ r).getD (i + x.length) 0) = fun i => r.getD i 0 := by
  funext i
  rw [List.getD_eq_getElem?_getD, List.getD_eq_getElem?_getD, List.getElem?_append_right (by omega)]
  congr 2
  omega
theorem stL_bad (l : List Nat) : (stL l).bad = false := rfl
theorem next_back (z : Int) (r : List Nat) (hz : 0 ≤ z ∧ z ≤ 4611686018427387903) : nextS false (stL (encU z ++ r)) = (z, stL r) := by
  have h := readV_back z.toNat r (by omega)
  have h1 : (readV (stL (encU z ++ r)).g (stL (encU z ++ r)).m) = (((z.toNat : Nat) : Int), ((encN z.toNat).length : Int), 0) := h
  rw [nextS_good (k := (encN z.toNat).length) (by rw [h1]) rfl (by rw [h1]), h1]
  refine Prod.ext (by simp; omega) ?_
  show (⟨fun i => (encU z ++ r).getD (i + (encN z.toNat).length) 0, (encU z ++ r).length - (encN z.toNat).length, false⟩ : St) = ⟨_, _, _⟩
  rw [show (fun i => (encU z ++ r).getD (i + (encN z.toNat).length) 0) = fun i => r.getD i 0 from shift_back _ _]
  congr 1
  simp [encU]
theorem sign_back (z : Int) (k : Int) (hz : -2305843009213693952 ≤ z ∧ z ≤ 2305843009213693951) : signV (((zig z : Nat) : Int), k, 0) = (z, k, 0) := by
  by_cases h : z < 0
  · have hx : ((zig z : Nat) : Int) = -2 * z - 1 := by unfold zig; rw [if_pos h]; omega
    rw [hx]
    show (if (0 : Int) = 0 then (if (-2 * z - 1) % 2 = 1 then (-((-2 * z - 1) / 2) - 1, k, 0) else ((-2 * z - 1) / 2, k, 0)) else (0, 0, 0)) = (z, k, 0)
    rw [if_pos rfl, if_pos (by omega), show -((-2 * z - 1) / 2) - 1 = z by omega]
  · have hx : ((zig z : Nat) : Int) = 2 * z := by unfold zig; rw [if_neg h]; omega
    rw [hx]
    show (if (0 : Int) = 0 then (if (2 * z) % 2 = 1 then (-((2 * z) / 2) - 1, k, 0) else ((2 * z) / 2, k, 0)) else (0, 0, 0)) = (z, k, 0)
    rw [if_pos rfl, if_neg (by omega), show (2 * z) / 2 = z by omega]
theorem nextS_back (z : Int) (r : List Nat) (hz : -2305843009213693952 ≤ z ∧ z ≤ 2305843009213693951) : nextS true (stL (encS z ++ r)) = (z, stL r) := by
  have h := readV_back (zig z) r (by unfold zig; split <;> omega)
  have h1 : (readV (stL (encS z ++ r)).g (stL (encS z ++ r)).m) = (((zig z : Nat) : Int), ((encN (zig z)).length : Int), 0) := h
  rw [nextS_good (k := (encN (zig z)).length) (by rw [h1]) rfl (by rw [h1]), h1]
  refine Prod.ext (by simp [sign_back z _ hz]) ?_
  show (⟨fun i => (encS z ++ r).getD (i + (encN (zig z)).length) 0, (encS z ++ r).length - (encN (zig z)).length, false⟩ : St) = ⟨_, _, _⟩
  rw [show (fun i => (encS z ++ r).getD (i + (encN (zig z)).length) 0) = fun i => r.getD i 0 from shift_back _ _]
  congr 1
  simp [encS]

/- what was read is what would be written -/
theorem rd_inv (g : Nat → Nat) (n : Nat) (hg : ∀ i, g i < 256) : ∀ (f i : Nat), (rd g n f i).2.2 = 0 → i ≤ n →
    ∃ q : Nat, (rd g n f i).1 = ((val7 g i + 128 ^ i * q : Nat) : Int) ∧ (rd g n f i).2.1 = ((i + (encN q).length : Nat) : Int) ∧ i + (encN q).length ≤ n ∧ (∀ j, j < (encN q).length → g (i + j) = (encN q).getD j 0) ∧ (i = 0 ∨ q ≠ 0)
  | 0, i, h, _ => by simp [rd] at h
  | f + 1, i, h, hi => by
    unfold rd at h ⊢
    by_cases hin : i = n
    · rw [if_pos hin] at h; exact absurd h (by decide)
    · rw [if_neg hin] at h ⊢
      have hgi := hg i
      by_cases hmore : 128 ≤ g i
      · rw [if_pos hmore] at h ⊢
        obtain ⟨q, h1, h2, h3, h4, h5⟩ := rd_inv g n hg f (i + 1) h (by omega)
        have hq : q ≠ 0 := by rcases h5 with h5 | h5 <;> omega
        have hlow : g i % 128 < 128 := Nat.mod_lt _ (by decide)
        have he : encN (g i % 128 + 128 * q) = g i :: encN q := by
          rw [encN_more (by omega), show (g i % 128 + 128 * q) % 128 + 128 = g i by omega, show (g i % 128 + 128 * q) / 128 = q by omega]
        refine ⟨g i % 128 + 128 * q, ?_, ?_, ?_, ?_, Or.inr (by omega)⟩
        · rw [h1]
          congr 1
          show val7 g i + g i % 128 * 128 ^ i + 128 ^ (i + 1) * q = _
          rw [Nat.pow_succ, Nat.mul_add, Nat.mul_comm (g i % 128), Nat.mul_assoc (128 ^ i) 128 q]
          omega
        · rw [h2, he, List.length_cons]
          congr 1
          omega
        · rw [he, List.length_cons]; omega
        · rw [he]
          intro j hj
          cases j with
          | zero => rfl
          | succ j =>
            rw [List.length_cons] at hj
            rw [show i + (j + 1) = i + 1 + j by omega, h4 j (by omega)]
            rfl
      · rw [if_neg hmore] at h ⊢
        by_cases hz : (g i = 0 ∧ 0 < i) ∨ 4611686018427387903 < val7 g (i + 1)
        · rw [if_pos hz] at h; exact absurd h (by decide)
        · rw [if_neg hz]
          have he : encN (g i) = [g i] := encN_last hmore
          refine ⟨g i, ?_, ?_, ?_, ?_, ?_⟩
          · show ((val7 g i + g i % 128 * 128 ^ i : Nat) : Int) = _
            rw [show g i % 128 = g i by omega, Nat.mul_comm]
          · rw [he]; simp
          · rw [he]; simp; omega
          · rw [he]
            intro j hj
            obtain rfl : j = 0 := by simpa using hj
            rfl
          · by_cases h0 : i = 0
            · exact Or.inl h0
            · exact Or.inr (fun e => hz (Or.inl ⟨e, by omega⟩))
theorem next_keep {sg : Bool} {s s' : St} {v : Int} (h : nextS sg s = (v, s')) (hb : s'.bad = false) : s.bad = false := by
  cases hs : s.bad with
  | false => rfl
  | true =>
    have := nextS_keeps sg s hs
    rw [h] at this
    rw [hb] at this
    exact absurd this (by decide)
theorem next_good {sg : Bool} {s s' : St} {v : Int} (h : nextS sg s = (v, s')) (hb : s'.bad = false) : (readV s.g s.m).2.2 = 0 := by
  refine Classical.byContradiction fun hn => ?_
  rw [nextS_bad (fun x => hn x.1)] at h
  injection h with _ h
  subst h
  exact Bool.noConfusion hb
/-- the bytes read -/
theorem next_inv {sg : Bool} {l : List Nat} {v : Int} {s' : St} (hl : ∀ x ∈ l, x < 256) (h : nextS sg (stL l) = (v, s')) (hb : s'.bad = false) :
    ∃ r, l = (if sg = true then encS v else encU v) ++ r ∧ s' = stL r := by
  have hok := next_good h hb
  obtain ⟨q, h1, h2, h3, h4, _⟩ := rd_inv (stL l).g (stL l).m (fun i => getD_byte hl i) 9 0 hok (Nat.zero_le _)
  have hv : readV (stL l).g (stL l).m = ((q : Int), ((encN q).length : Int), 0) := by
    refine Prod.ext ?_ (Prod.ext ?_ hok)
    · show (rd _ _ _ _).1 = _
      rw [h1]; simp [val7]
    · show (rd _ _ _ _).2.1 = _
      rw [h2]; simp
  have hlen : (encN q).length ≤ l.length := by
    have : 0 + (encN q).length ≤ l.length := h3
    omega
  have htake : l.take (encN q).length = encN q := by
    refine List.ext_getElem? fun j => ?_
    by_cases hj : j < (encN q).length
    · have := h4 j hj
      rw [Nat.zero_add] at this
      have h5 : l.getD j 0 = (encN q).getD j 0 := this
      rw [List.getElem?_take_of_lt hj]
      rw [List.getD_eq_getElem?_getD, List.getD_eq_getElem?_getD, List.getElem?_eq_getElem hj, List.getElem?_eq_getElem (show j < l.length by omega)] at h5
      rw [List.getElem?_eq_getElem hj, List.getElem?_eq_getElem (show j < l.length by omega)]
      simpa using h5
    · rw [List.getElem?_eq_none (by rw [List.length_take]; omega), List.getElem?_eq_none (by omega)]
  have hsp : l = encN q ++ l.drop (encN q).length := by
    have := List.take_append_drop (encN q).length l
    rw [htake] at this
    exact this.symm
  refine ⟨l.drop (encN q).length, ?_, ?_⟩
  · have hk := nextS_good (sg := sg) (k := (encN q).length) hok (stL_bad l) (by rw [hv])
    rw [h] at hk
    injection hk with hk _
    rw [hv] at hk
    cases sg with
    | false =>
      have : v = q := hk
      subst this
      rw [if_neg (by decide)]
      exact hsp
    | true =>
      have h6 : v = (signV ((q : Int), ((encN q).length : Int), 0)).1 := hk
      have h7 : zig v = q := by
        unfold signV at h6
        rw [if_pos rfl] at h6
        by_cases ho : (q : Int) % 2 = 1
        · rw [if_pos ho] at h6
          have h8 : v = -((q : Int) / 2) - 1 := h6
          unfold zig
          rw [if_pos (by omega)]
          omega
        · rw [if_neg ho] at h6
          have h8 : v = (q : Int) / 2 := h6
          unfold zig
          rw [if_neg (by omega)]
          omega
      rw [if_pos rfl]
      unfold encS
      rw [h7]
      exact hsp
  · have hk := nextS_good (sg := sg) (k := (encN q).length) hok (stL_bad l) (by rw [hv])
    rw [h] at hk
    injection hk with _ hk
    rw [hk]
    show (⟨fun i => l.getD (i + (encN q).length) 0, l.length - (encN q).length, false⟩ : St) = ⟨fun i => (l.drop (encN q).length).getD i 0, (l.drop (encN q).length).length, false⟩
    congr 1
    · funext i
      rw [List.getD_eq_getElem?_getD, List.getD_eq_getElem?_getD, List.getElem?_drop, Nat.add_comm]
    · rw [List.length_drop]
theorem nextU_inv {l : List Nat} {v : Int} {s' : St} (hl : ∀ x ∈ l, x < 256) (h : nextS false (stL l) = (v, s')) (hb : s'.bad = false) :
    ∃ r, l = encU v ++ r ∧ s' = stL r ∧ (∀ x ∈ r, x < 256) := by
  obtain ⟨r, h1, h2⟩ := next_inv hl h hb
  rw [if_neg (by decide)] at h1
  exact ⟨r, h1, h2, fun x hx => hl x (by rw [h1]; exact List.mem_append_right _ hx)⟩
theorem nextI_inv {l : List Nat} {v : Int} {s' : St} (hl : ∀ x ∈ l, x < 256) (h : nextS true (stL l) = (v, s')) (hb : s'.bad = false) :
    ∃ r, l = encS v ++ r ∧ s' = stL r ∧ (∀ x ∈ r, x < 256) := by
  obtain ⟨r, h1, h2⟩ := next_inv hl h hb
  rw [if_pos rfl] at h1
  exact ⟨r, h1, h2, fun x hx => hl x (by rw [h1]; exact List.mem_append_right _ hx)⟩
theorem encP_list (l : Int) (p : Pt) (r : List Nat) : encP l p ++ r = encU (p.id - l) ++ (encS p.x ++ (encS p.y ++ (encS p.zl ++ (encU (p.zh - p.zl) ++ (encU p.wd ++ (encU p.nm ++ (encU p.of ++ (encU p.cl ++ r)))))))) := by
  simp [encP, encs]
theorem encB_list (t : Tl) (r : List Nat) : encB t ++ r = encU t.key.L ++ (encU t.key.x ++ (encU t.key.y ++ (encU t.key.z ++ (encU (t.pts.length : Int) ++ (encPs 0 t.pts ++ r))))) := by
  simp [encB, encs]
/-- a point read by the program -/
theorem ptX_inv {l : Int} {b : List Nat} {p : Pt} {s' : St} (hl : ∀ x ∈ b, x < 256) (h : ptX l (stL b) = (p, s')) (hb : s'.bad = false) :
    ∃ r, b = encP l p ++ r ∧ s' = stL r ∧ (∀ x ∈ r, x < 256) := by
  rcases e0 : nextS false (stL b) with ⟨v0, t1⟩
  rcases e1 : nextS true t1 with ⟨v1, t2⟩
  rcases e2 : nextS true t2 with ⟨v2, t3⟩
  rcases e3 : nextS true t3 with ⟨v3, t4⟩
  rcases e4 : nextS false t4 with ⟨v4, t5⟩
  rcases e5 : nextS false t5 with ⟨v5, t6⟩
  rcases e6 : nextS false t6 with ⟨v6, t7⟩
  rcases e7 : nextS false t7 with ⟨v7, t8⟩
  rcases e8 : nextS false t8 with ⟨v8, t9⟩
  unfold ptX at h
  simp only [e0, e1, e2, e3, e4, e5, e6, e7, e8] at h
  injection h with hp hs
  have b9 : t9.bad = false ∧ s' = t9 := by
    by_cases hbig : 1152921504606846976 < l + v0
    · rw [if_pos hbig] at hs
      subst hs
      exact absurd hb (by simp [St.mark])
    · rw [if_neg hbig] at hs
      subst hs
      exact ⟨hb, rfl⟩
  have b8 := next_keep e8 b9.1
  have b7 := next_keep e7 b8
  have b6 := next_keep e6 b7
  have b5 := next_keep e5 b6
  have b4 := next_keep e4 b5
  have b3 := next_keep e3 b4
  have b2 := next_keep e2 b3
  have b1 := next_keep e1 b2
  obtain ⟨r0, q0, rfl, k0⟩ := nextU_inv hl e0 b1
  obtain ⟨r1, q1, rfl, k1⟩ := nextI_inv k0 e1 b2
  obtain ⟨r2, q2, rfl, k2⟩ := nextI_inv k1 e2 b3
  obtain ⟨r3, q3, rfl, k3⟩ := nextI_inv k2 e3 b4
  obtain ⟨r4, q4, rfl, k4⟩ := nextU_inv k3 e4 b5
  obtain ⟨r5, q5, rfl, k5⟩ := nextU_inv k4 e5 b6
  obtain ⟨r6, q6, rfl, k6⟩ := nextU_inv k5 e6 b7
  obtain ⟨r7, q7, rfl, k7⟩ := nextU_inv k6 e7 b8
  obtain ⟨r8, q8, rfl, k8⟩ := nextU_inv k7 e8 b9.1
  refine ⟨r8, ?_, b9.2, k8⟩
  rw [encP_list, ← hp]
  simp only
  rw [show l + v0 - l = v0 by omega, show v3 + v4 - v3 = v4 by omega, ← q8, ← q7, ← q6, ← q5, ← q4, ← q3, ← q2, ← q1, ← q0]
theorem ptX_keep {l : Int} {s s' : St} {p : Pt} (h : ptX l s = (p, s')) (hb : s'.bad = false) : s.bad = false := by
  rcases e0 : nextS false s with ⟨v0, t1⟩
  rcases e1 : nextS true t1 with ⟨v1, t2⟩
  rcases e2 : nextS true t2 with ⟨v2, t3⟩
  rcases e3 : nextS true t3 with ⟨v3, t4⟩
  rcases e4 : nextS false t4 with ⟨v4, t5⟩
  rcases e5 : nextS false t5 with ⟨v5, t6⟩
  rcases e6 : nextS false t6 with ⟨v6, t7⟩
  rcases e7 : nextS false t7 with ⟨v7, t8⟩
  rcases e8 : nextS false t8 with ⟨v8, t9⟩
  unfold ptX at h
  simp only [e0, e1, e2, e3, e4, e5, e6, e7, e8] at h
  injection h with hp hs
  have b9 : t9.bad = false := by
    by_cases hbig : 1152921504606846976 < l + v0
    · rw [if_pos hbig] at hs
      subst hs
      exact absurd hb (by simp [St.mark])
    · rw [if_neg hbig] at hs
      subst hs
      exact hb
  exact next_keep e0 (next_keep e1 (next_keep e2 (next_keep e3 (next_keep e4 (next_keep e5 (next_keep e6 (next_keep e7 (next_keep e8 b9))))))))
theorem ptsX_keep : ∀ (f : Nat) (l : Int) (s : St), (ptsX f l s).2.bad = false → s.bad = false
  | 0, _, _, h => h
  | f + 1, _, s, h => by
    cases hs : s.bad with
    | false => rfl
    | true =>
      rw [ptsX_bad _ _ _ hs] at h
      exact absurd h (by simp [hs])
theorem ptsX_inv : ∀ (f : Nat) (l : Int) (b : List Nat), (∀ x ∈ b, x < 256) → (ptsX f l (stL b)).2.bad = false →
    ∃ r, b = encPs l (ptsX f l (stL b)).1 ++ r ∧ (ptsX f l (stL b)).2 = stL r ∧ (ptsX f l (stL b)).1.length = f
  | 0, _, b, _, _ => ⟨b, rfl, rfl, rfl⟩
  | f + 1, l, b, hl, hb => by
    rcases hp : ptX l (stL b) with ⟨p, s'⟩
    have hn := ptsX_next (f := f) (stL_bad b) hp
    rw [hn] at hb ⊢
    have hs' := ptsX_keep f p.id s' hb
    obtain ⟨r, h1, h2, h3⟩ := ptX_inv hl hp hs'
    rw [h2] at hb ⊢
    obtain ⟨r', h4, h5, h6⟩ := ptsX_inv f p.id r h3 hb
    refine ⟨r', ?_, h5, by simp [h6]⟩
    show b = (encP l p ++ encPs p.id _) ++ r'
    rw [List.append_assoc, ← h4]
    exact h1
theorem tileX_inv {b : List Nat} (hl : ∀ x ∈ b, x < 256) (hb : (tileX (stL b)).2.bad = false) (hm : (tileX (stL b)).2.m = 0) : b = encB (tileX (stL b)).1 := by
  rcases e0 : nextS false (stL b) with ⟨v0, t1⟩
  rcases e1 : nextS false t1 with ⟨v1, t2⟩
  rcases e2 : nextS false t2 with ⟨v2, t3⟩
  rcases e3 : nextS false t3 with ⟨v3, t4⟩
  rcases e4 : nextS false t4 with ⟨v4, t5⟩
  have hx : tileX (stL b) = (⟨⟨v0, v1, v2, v3⟩, (ptsX v4.toNat 0 (if 1024 < v4 then t5.mark else t5)).1⟩, (ptsX v4.toNat 0 (if 1024 < v4 then t5.mark else t5)).2) := by
    unfold tileX pointsX
    simp only [e0, e1, e2, e3, e4]
  have q4 := nextU_range t4
  rw [e4] at q4
  simp only at q4
  rw [hx] at hb hm ⊢
  simp only at hb hm ⊢
  have hk := ptsX_keep _ _ _ hb
  by_cases hbig : 1024 < v4
  · rw [if_pos hbig] at hk
    exact absurd hk (by simp [St.mark])
  · rw [if_neg hbig] at hk hb hm ⊢
    have b4 := next_keep e4 hk
    have b3 := next_keep e3 b4
    have b2 := next_keep e2 b3
    have b1 := next_keep e1 b2
    obtain ⟨r0, q0, rfl, k0⟩ := nextU_inv hl e0 b1
    obtain ⟨r1, q1, rfl, k1⟩ := nextU_inv k0 e1 b2
    obtain ⟨r2, q2, rfl, k2⟩ := nextU_inv k1 e2 b3
    obtain ⟨r3, q3, rfl, k3⟩ := nextU_inv k2 e3 b4
    obtain ⟨r4, q4', rfl, k4⟩ := nextU_inv k3 e4 hk
    obtain ⟨r, h1, h2, h3⟩ := ptsX_inv v4.toNat 0 r4 k4 hb
    rw [h2] at hm
    have hr : r = [] := List.length_eq_zero_iff.1 hm
    subst hr
    have he := encB_list ⟨⟨v0, v1, v2, v3⟩, (ptsX v4.toNat 0 (stL r4)).1⟩ []
    rw [List.append_nil] at he
    rw [he]
    simp only
    rw [h3, show ((v4.toNat : Nat) : Int) = v4 by omega, ← h1, ← q4', ← q3, ← q2, ← q1, ← q0]

/- reading points back -/
def NumF : Int → List Pt → Prop
  | _, [] => True
  | l, p :: P => NumP l p ∧ NumF p.id P
theorem numF_of : ∀ (l : Int) (P : List Pt), (∀ k p, P[k]? = some p → NumP (endL l (P.take k)) p) → NumF l P
  | _, [], _ => trivial
  | _, p :: P, h => ⟨h 0 p rfl, numF_of p.id P (fun k q hq => h (k + 1) q hq)⟩
theorem ptX_back {l : Int} {p : Pt} (h : NumP l p) (r : List Nat) : ptX l (stL (encP l p ++ r)) = (p, stL r) := by
  rw [encP_list]
  have a0 := next_back (p.id - l) (encS p.x ++ (encS p.y ++ (encS p.zl ++ (encU (p.zh - p.zl) ++ (encU p.wd ++ (encU p.nm ++ (encU p.of ++ (encU p.cl ++ r)))))))) (by have := h.id; omega)
  have a1 := nextS_back p.x (encS p.y ++ (encS p.zl ++ (encU (p.zh - p.zl) ++ (encU p.wd ++ (encU p.nm ++ (encU p.of ++ (encU p.cl ++ r))))))) (by have := h.x; omega)
  have a2 := nextS_back p.y (encS p.zl ++ (encU (p.zh - p.zl) ++ (encU p.wd ++ (encU p.nm ++ (encU p.of ++ (encU p.cl ++ r)))))) (by have := h.y; omega)
  have a3 := nextS_back p.zl (encU (p.zh - p.zl) ++ (encU p.wd ++ (encU p.nm ++ (encU p.of ++ (encU p.cl ++ r))))) (by have := h.z; omega)
  have a4 := next_back (p.zh - p.zl) (encU p.wd ++ (encU p.nm ++ (encU p.of ++ (encU p.cl ++ r)))) (by have := h.z; have := h.h; omega)
  have a5 := next_back p.wd (encU p.nm ++ (encU p.of ++ (encU p.cl ++ r))) (by have := h.wd; omega)
  have a6 := next_back p.nm (encU p.of ++ (encU p.cl ++ r)) (by have := h.nm; omega)
  have a7 := next_back p.of (encU p.cl ++ r) (by have := h.of; omega)
  have a8 := next_back p.cl r (by have := h.cl; omega)
  unfold ptX
  simp only [a0, a1, a2, a3, a4, a5, a6, a7, a8]
  have e1 : l + (p.id - l) = p.id := by omega
  have e2 : p.zl + (p.zh - p.zl) = p.zh := by omega
  rw [e1, e2, if_neg (by have := h.i; omega)]
theorem ptR_back {l : Int} {p : Pt} (h : NumP l p) (r : List Nat) : ptR l (stL (encP l p ++ r)) = (p, stL r) := by
  rw [encP_list]
  have a0 := next_back (p.id - l) (encS p.x ++ (encS p.y ++ (encS p.zl ++ (encU (p.zh - p.zl) ++ (encU p.wd ++ (encU p.nm ++ (encU p.of ++ (encU p.cl ++ r)))))))) (by have := h.id; omega)
  have a1 := nextS_back p.x (encS p.y ++ (encS p.zl ++ (encU (p.zh - p.zl) ++ (encU p.wd ++ (encU p.nm ++ (encU p.of ++ (encU p.cl ++ r))))))) (by have := h.x; omega)
  have a2 := nextS_back p.y (encS p.zl ++ (encU (p.zh - p.zl) ++ (encU p.wd ++ (encU p.nm ++ (encU p.of ++ (encU p.cl ++ r)))))) (by have := h.y; omega)
  have a3 := nextS_back p.zl (encU (p.zh - p.zl) ++ (encU p.wd ++ (encU p.nm ++ (encU p.of ++ (encU p.cl ++ r))))) (by have := h.z; omega)
  have a4 := next_back (p.zh - p.zl) (encU p.wd ++ (encU p.nm ++ (encU p.of ++ (encU p.cl ++ r)))) (by have := h.z; have := h.h; omega)
  have a5 := next_back p.wd (encU p.nm ++ (encU p.of ++ (encU p.cl ++ r))) (by have := h.wd; omega)
  have a6 := next_back p.nm (encU p.of ++ (encU p.cl ++ r)) (by have := h.nm; omega)
  have a7 := next_back p.of (encU p.cl ++ r) (by have := h.of; omega)
  have a8 := next_back p.cl r (by have := h.cl; omega)
  have c0 : ¬ (1152921504606846976 < p.id - l) := by have := h.i; have := h.l; omega
  have c1 : ¬ (p.zl < -268435456 ∨ 268435456 < p.zl ∨ 536870912 < p.zh - p.zl ∨ 1152921504606846976 < l + (p.id - l)) := by have := h.i; have := h.z; have := h.h; omega
  unfold ptR
  simp only [a0, if_neg c0, a1, a2, a3, a4, if_neg c1, a5, a6, a7, a8]
  have e1 : l + (p.id - l) = p.id := by omega
  have e2 : p.zl + (p.zh - p.zl) = p.zh := by omega
  rw [e1, e2]
theorem ptsX_back : ∀ (l : Int) (P : List Pt), NumF l P → ∀ r, ptsX P.length l (stL (encPs l P ++ r)) = (P, stL r)
  | _, [], _, r => rfl
  | l, p :: P, h, r => by
    have h1 := ptX_back h.1 (encPs p.id P ++ r)
    have h2 := ptsX_next (f := P.length) (stL_bad _) h1
    rw [show encPs l (p :: P) ++ r = encP l p ++ (encPs p.id P ++ r) from List.append_assoc _ _ _, List.length_cons, h2, ptsX_back p.id P h.2 r]
theorem ptsR_back : ∀ (l : Int) (P : List Pt), NumF l P → ∀ r, ptsR P.length l (stL (encPs l P ++ r)) = (P, stL r)
  | _, [], _, r => rfl
  | l, p :: P, h, r => by
    have h1 := ptR_back h.1 (encPs p.id P ++ r)
    have h2 := ptsR_next (f := P.length) (stL_bad _) h1
    rw [show encPs l (p :: P) ++ r = encP l p ++ (encPs p.id P ++ r) from List.append_assoc _ _ _, List.length_cons, h2, ptsR_back p.id P h.2 r]
/-- a tile read by the reference -/
def tileR (s : St) : Tl × St :=
  let r0 := nextS false s
  let r1 := nextS false r0.2
  let r2 := nextS false r1.2
  let r3 := nextS false r2.2
  let r4 := nextS false r3.2
  let q := ptsR (if r4.1 < 1025 then r4.1 else 1025).toNat 0 r4.2
  (⟨⟨r0.1, r1.1, r2.1, r3.1⟩, q.1⟩, q.2)
theorem tlOk_nums {t : Tl} (h : TlOk t) : NumF 0 t.pts := numF_of 0 t.pts (nums_ok h.good h.asc)
theorem tlOk_key {t : Tl} (h : TlOk t) : (0 ≤ t.key.L ∧ t.key.L ≤ 4611686018427387903) ∧ (0 ≤ t.key.x ∧ t.key.x ≤ 4611686018427387903) ∧ (0 ≤ t.key.y ∧ t.key.y ≤ 4611686018427387903) ∧ (0 ≤ t.key.z ∧ t.key.z ≤ 4611686018427387903) := by
  have hk := keyB_yes h.key
  omega
theorem tileX_back {t : Tl} (h : TlOk t) (r : List Nat) : tileX (stL (encB t ++ r)) = (t, stL r) := by
  rw [encB_list]
  have hk := tlOk_key h
  have hl := ((goodL_iff t.pts).1 h.good).1
  have a0 := next_back t.key.L (encU t.key.x ++ (encU t.key.y ++ (encU t.key.z ++ (encU (t.pts.length : Int) ++ (encPs 0 t.pts ++ r))))) hk.1
  have a1 := next_back t.key.x (encU t.key.y ++ (encU t.key.z ++ (encU (t.pts.length : Int) ++ (encPs 0 t.pts ++ r)))) hk.2.1
  have a2 := next_back t.key.y (encU t.key.z ++ (encU (t.pts.length : Int) ++ (encPs 0 t.pts ++ r))) hk.2.2.1
  have a3 := next_back t.key.z (encU (t.pts.length : Int) ++ (encPs 0 t.pts ++ r)) hk.2.2.2
  have a4 := next_back (t.pts.length : Int) (encPs 0 t.pts ++ r) (by omega)
  unfold tileX pointsX
  simp only [a0, a1, a2, a3, a4]
  rw [if_neg (by omega), Int.toNat_natCast, ptsX_back 0 t.pts (tlOk_nums h) r]
theorem tileR_back {t : Tl} (h : TlOk t) (r : List Nat) : tileR (stL (encB t ++ r)) = (t, stL r) := by
  rw [encB_list]
  have hk := tlOk_key h
  have hl := ((goodL_iff t.pts).1 h.good).1
  have a0 := next_back t.key.L (encU t.key.x ++ (encU t.key.y ++ (encU t.key.z ++ (encU (t.pts.length : Int) ++ (encPs 0 t.pts ++ r))))) hk.1
  have a1 := next_back t.key.x (encU t.key.y ++ (encU t.key.z ++ (encU (t.pts.length : Int) ++ (encPs 0 t.pts ++ r)))) hk.2.1
  have a2 := next_back t.key.y (encU t.key.z ++ (encU (t.pts.length : Int) ++ (encPs 0 t.pts ++ r))) hk.2.2.1
  have a3 := next_back t.key.z (encU (t.pts.length : Int) ++ (encPs 0 t.pts ++ r)) hk.2.2.2
  have a4 := next_back (t.pts.length : Int) (encPs 0 t.pts ++ r) (by omega)
  unfold tileR
  simp only [a0, a1, a2, a3, a4]
  rw [if_pos (by omega), Int.toNat_natCast, ptsR_back 0 t.pts (tlOk_nums h) r]

/- the checksum at the end -/
theorem be4 {g : Nat → Nat} {c : Nat} (hc : c < 4294967296) (h0 : g 0 = c / 16777216 % 256) (h1 : g 1 = c / 65536 % 256) (h2 : g 2 = c / 256 % 256) (h3 : g 3 = c % 256) : (be g 4).toNat = c := by
  have step : ∀ (x : BitVec 32) (y : Nat), y < 256 → ((x <<< 8) ||| BitVec.ofNat 32 y).toNat = x.toNat * 256 % 4294967296 + y := fun x y hy => by
    have e1 : (x <<< 8).toNat = x.toNat * 256 % 4294967296 := by rw [BitVec.toNat_shiftLeft, Nat.shiftLeft_eq]
    rw [BitVec.toNat_or, e1, BitVec.toNat_ofNat, Nat.mod_eq_of_lt (show y < 2 ^ 32 by omega)]
    have e2 : x.toNat * 256 % 4294967296 = 2 ^ 8 * (x.toNat % 16777216) := by omega
    rw [e2, ← Nat.two_pow_add_eq_or_of_lt (by omega)]
  show ((((((((0#32 <<< 8) ||| BitVec.ofNat 32 (g 0)) <<< 8) ||| BitVec.ofNat 32 (g 1)) <<< 8) ||| BitVec.ofNat 32 (g 2)) <<< 8) ||| BitVec.ofNat 32 (g 3)).toNat = c
  rw [step _ _ (by omega), step _ _ (by omega), step _ _ (by omega), step _ _ (by omega)]
  rw [h0, h1, h2, h3]
  simp
  omega
theorem be4_inv {g : Nat → Nat} {c : Nat} (hg : ∀ i, g i < 256) (h : (be g 4).toNat = c) : g 0 = c / 16777216 % 256 ∧ g 1 = c / 65536 % 256 ∧ g 2 = c / 256 % 256 ∧ g 3 = c % 256 := by
  have step : ∀ (x : BitVec 32) (y : Nat), y < 256 → ((x <<< 8) ||| BitVec.ofNat 32 y).toNat = x.toNat * 256 % 4294967296 + y := fun x y hy => by
    have e1 : (x <<< 8).toNat = x.toNat * 256 % 4294967296 := by rw [BitVec.toNat_shiftLeft, Nat.shiftLeft_eq]
    rw [BitVec.toNat_or, e1, BitVec.toNat_ofNat, Nat.mod_eq_of_lt (show y < 2 ^ 32 by omega)]
    have e2 : x.toNat * 256 % 4294967296 = 2 ^ 8 * (x.toNat % 16777216) := by omega
    rw [e2, ← Nat.two_pow_add_eq_or_of_lt (by omega)]
  have h' : ((((((((0#32 <<< 8) ||| BitVec.ofNat 32 (g 0)) <<< 8) ||| BitVec.ofNat 32 (g 1)) <<< 8) ||| BitVec.ofNat 32 (g 2)) <<< 8) ||| BitVec.ofNat 32 (g 3)).toNat = c := h
  have g0 := hg 0
  have g1 := hg 1
  have g2 := hg 2
  have g3 := hg 3
  rw [step _ _ g3, step _ _ g2, step _ _ g1, step _ _ g0] at h'
  simp at h'
  omega
theorem crcL_take (l : List Nat) {n : Nat} (hn : n ≤ l.length) : crcV (fun i => l.getD i 0) n = crcL (l.take n) := by
  unfold crcL crcV
  rw [List.length_take, Nat.min_eq_left hn]
  rw [bytesP_congr n (fun i hi => show l.getD i 0 = (l.take n).getD i 0 by rw [List.getD_eq_getElem?_getD, List.getD_eq_getElem?_getD, List.getElem?_take_of_lt hi])]
theorem sumOk_iff {l : List Nat} (hl : ∀ x ∈ l, x < 256) {n : Nat} (hn : l.length = n + 4) : SumOk l n ↔ l = l.take n ++ bytes4 (crcL (l.take n)) := by
  unfold SumOk
  rw [crcL_take l (by omega)]
  have hlt := crcL_lt (l.take n)
  generalize crcL (l.take n) = c at *
  have hat : ∀ j, j < 4 → (l.drop n)[j]? = some (l.getD (n + j) 0) := fun j hj => by
    rw [List.getElem?_drop, List.getD_eq_getElem?_getD, List.getElem?_eq_getElem (show n + j < l.length by omega)]
    rfl
  have hd : l.drop n = [l.getD (n + 0) 0, l.getD (n + 1) 0, l.getD (n + 2) 0, l.getD (n + 3) 0] := by
    refine List.ext_getElem? fun j => ?_
    match j with
    | 0 => exact hat 0 (by omega)
    | 1 => exact hat 1 (by omega)
    | 2 => exact hat 2 (by omega)
    | 3 => exact hat 3 (by omega)
    | j + 4 =>
      rw [List.getElem?_eq_none (by rw [List.length_drop]; omega)]
      rfl
  have hsplit := List.take_append_drop n l
  constructor
  · intro h
    obtain ⟨h0, h1, h2, h3⟩ := be4_inv (g := fun i => l.getD (n + i) 0) (fun i => getD_byte hl (n + i)) h
    rw [hd] at hsplit
    rw [h0, h1, h2, h3] at hsplit
    exact hsplit.symm
  · intro h
    have h2 : l.drop n = bytes4 c := by
      exact List.append_cancel_left (hsplit.trans h)
    rw [hd] at h2
    unfold bytes4 at h2
    injection h2 with e0 h2
    injection h2 with e1 h2
    injection h2 with e2 h2
    injection h2 with e3 h2
    exact be4 hlt e0 e1 e2 e3
/-- what the program accepts -/
theorem okX_iff {l : List Nat} (hl : ∀ x ∈ l, x < 256) {n : Nat} (hn : l.length = n + 4) {t : Tl} : (OkX l n ∧ (tileX (stL (l.take n))).1 = t) ↔ (TlOk t ∧ l = encT t) := by
  constructor
  · rintro ⟨⟨h1, h2, h3, h4⟩, rfl⟩
    have h5 := tileX_inv (fun x hx => hl x (List.mem_of_mem_take hx)) h2 h3
    refine ⟨h4, ?_⟩
    have h6 := (sumOk_iff hl hn).1 h1
    unfold encT
    rw [← h5]
    exact h6
  · rintro ⟨h1, h2⟩
    have hlen : n = (encB t).length := by
      have : l.length = (encB t).length + 4 := by rw [h2]; simp [encT, bytes4]
      omega
    have htake : l.take n = encB t := by
      rw [h2, hlen]
      exact List.take_left
    have hb := tileX_back h1 []
    rw [List.append_nil] at hb
    refine ⟨⟨(sumOk_iff hl hn).2 ?_, ?_, ?_, ?_⟩, ?_⟩
    · rw [htake]; exact h2
    · rw [htake, hb]; rfl
    · rw [htake, hb]; rfl
    · rw [htake, hb]; exact h1
    · rw [htake, hb]
/-- what the reference accepts -/
def OkR (l : List Nat) : Prop := (tileR (stL l)).2.bad = false ∧ TlOk (tileR (stL l)).1 ∧ encT (tileR (stL l)).1 = l
theorem okR_iff {l : List Nat} {t : Tl} : (OkR l ∧ (tileR (stL l)).1 = t) ↔ (TlOk t ∧ l = encT t) := by
  constructor
  · rintro ⟨⟨_, h2, h3⟩, rfl⟩
    exact ⟨h2, h3.symm⟩
  · rintro ⟨h1, rfl⟩
    have hb := tileR_back h1 (bytes4 (crcL (encB t)))
    have hb' : tileR (stL (encT t)) = (t, stL (bytes4 (crcL (encB t)))) := hb
    unfold OkR
    rw [hb']
    exact ⟨⟨rfl, h1, rfl⟩, rfl⟩
/-- both accept the same bytes, and read the same tile -/
theorem ok_both {l : List Nat} (hl : ∀ x ∈ l, x < 256) {n : Nat} (hn : l.length = n + 4) : (OkX l n ∧ OkR l ∧ (tileX (stL (l.take n))).1 = (tileR (stL l)).1) ∨ (¬ OkX l n ∧ ¬ OkR l) := by
  by_cases h : OkX l n
  · have h1 := (okX_iff hl hn).1 ⟨h, rfl⟩
    have h2 := okR_iff.2 h1
    exact Or.inl ⟨h, h2.1, h2.2.symm⟩
  · refine Or.inr ⟨h, fun hr => h ?_⟩
    exact ((okX_iff hl hn).2 (okR_iff.1 ⟨hr, rfl⟩)).1
theorem encT_long (t : Tl) : 4 ≤ (encT t).length := by simp [encT, bytes4]
theorem okR_short {l : List Nat} (h : l.length < 4) : ¬ OkR l := fun ⟨_, _, h3⟩ => by
  have := encT_long (tileR (stL l)).1
  rw [h3] at this
  omega
/-- a change of one byte is refused -/
theorem okX_changed {t : Tl} {c : List Nat} (hc : ∀ x ∈ c, x < 256) {n : Nat} (hn : c.length = n + 4) (hlen : c.length = (encT t).length) {i : Nat} (hi : i < c.length)
    (hne : c.getD i 0 ≠ (encT t).getD i 0) (hs : ∀ j, j ≠ i → c.getD j 0 = (encT t).getD j 0) : ¬ OkX c n := fun h => by
  have hb : n = (encB t).length := by
    have : (encT t).length = (encB t).length + 4 := by simp [encT, bytes4]
    omega
  have hlt := encB_byte t
  have e2 := h.1
  unfold SumOk at e2
  have hold : crcL (encB t) = crcV (fun i => (encT t).getD i 0) n := by
    rw [crcL_take (encT t) (by omega), hb]
    congr 1
    exact (List.take_left).symm
  by_cases hin : i < n
  · have hsame : (be (fun j => c.getD (n + j) 0) 4).toNat = crcL (encB t) := by
      refine be4 (crcL_lt _) ?_ ?_ ?_ ?_ <;> (show c.getD _ 0 = _; rw [hs _ (by omega), encT, hb, List.getD_eq_getElem?_getD, List.getElem?_append_right (by omega)]; simp [bytes4])
    rw [hsame, hold] at e2
    have hb1 := bytesP_one (g := fun j => c.getD j 0) (h := fun j => (encT t).getD j 0) (fun j => getD_byte hc j) (fun j => getD_byte (app_byte hlt (by intro x hx; simp [bytes4] at hx; omega)) j) (j := i) hne hs n hin
    apply hb1
    unfold crcV at e2
    have e3 := BitVec.eq_of_toNat_eq e2
    have e4 := congrArg (fun x => ~~~ x) e3
    simpa using e4.symm
  · have hsame : crcV (fun j => c.getD j 0) n = crcL (encB t) := by
      rw [hold]
      unfold crcV
      rw [bytesP_congr n (fun j hj => hs j (by omega))]
    rw [hsame] at e2
    obtain ⟨h0, h1, h2, h3⟩ := be4_inv (g := fun j => c.getD (n + j) 0) (fun j => getD_byte hc (n + j)) e2
    apply hne
    obtain ⟨k, hk, rfl⟩ : ∃ k, k < 4 ∧ i = n + k := ⟨i - n, by omega, by omega⟩
    have hr : (encT t).getD (n + k) 0 = (bytes4 (crcL (encB t))).getD k 0 := by
      rw [encT, hb, List.getD_eq_getElem?_getD, List.getD_eq_getElem?_getD, List.getElem?_append_right (by omega)]
      congr 2
      omega
    rw [hr]
    match k, hk with
    | 0, _ => rw [h0]; rfl
    | 1, _ => rw [h1]; rfl
    | 2, _ => rw [h2]; rfl
    | 3, _ => rw [h3]; rfl
end Go.Proofs.Yteanlcefdoigcaa
