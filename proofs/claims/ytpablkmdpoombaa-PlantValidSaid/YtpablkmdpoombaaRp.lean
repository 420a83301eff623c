/- Texts of the seat Yteanlcefdoigcaa, turned to this one by wip/port.py: RtM DecRP StrM DecRY DecN DecLaw. -/
import Derived.Test.YtpablkmdpoombaaFund
import Derived.Test.YtpablkmdpoombaaVal
import Derived.Test.YtpablkmdpoombaaPts
import Derived.Test.YtpablkmdpoombaaSrt
import Derived.Test.YtpablkmdpoombaaNum
import Derived.Test.YtpablkmdpoombaaCrc
import Derived.Test.YtpablkmdpoombaaEnc
import Derived.Laws.BytesArg
import Derived.Laws.Strings
/- RtM -/
namespace Go.Proofs.Ytpablkmdpoombaa
open Go.RowKit

theorem rd_back (g : Nat → Nat) (n z : Nat) (hz : z ≤ 4611686018427387903) : ∀ (f q i : Nat), (∀ j, j < (encN q).length → g (i + j) = (encN q).getD j 0) → i + (encN q).length ≤ n → (encN q).length ≤ f →
    val7 g i + 128 ^ i * q = z → (i = 0 ∨ q ≠ 0) → rd g n f i = (((z : Nat) : Int), ((i + (encN q).length : Nat) : Int), 0)
  | 0, q, i, _, _, hf, _, _ => by have := encN_pos q; omega
  | f + 1, q, i, hg, hn, hf, hv, hq => by
    have hp := encN_pos q
    have h0 := hg 0 hp
    rw [Nat.add_zero] at h0
    unfold rd
    rw [if_neg (by omega)]
    by_cases h : 128 ≤ q
    · have he := encN_more h
      rw [he] at h0 hn hf hg ⊢
      rw [show ((q % 128 + 128) :: encN (q / 128)).getD 0 0 = q % 128 + 128 from rfl] at h0
      rw [if_pos (by omega)]
      have hv1 : val7 g (i + 1) = val7 g i + q % 128 * 128 ^ i := by
        show val7 g i + g i % 128 * 128 ^ i = _
        rw [h0, show (q % 128 + 128) % 128 = q % 128 by omega]
      have hr := rd_back g n z hz f (q / 128) (i + 1) (fun j hj => by
          have := hg (j + 1) (by simpa using hj)
          rw [show i + 1 + j = i + (j + 1) by omega]
          simpa using this) (by simp at hn; omega) (by simp at hf; omega) (by
          rw [hv1, Nat.pow_succ, ← hv]
          have : q = 128 * (q / 128) + q % 128 := by omega
          generalize 128 ^ i = P at *
          generalize q / 128 = a at *
          generalize q % 128 = b at *
          subst this
          rw [Nat.mul_add, Nat.mul_comm b P, Nat.mul_assoc P 128 a]
          omega) (Or.inr (by omega))
      rw [hr]
      simp
      omega
    · have he := encN_last h
      rw [he] at h0 hn hf hg ⊢
      rw [show [q].getD 0 0 = q from rfl] at h0
      have hv1 : val7 g (i + 1) = z := by
        show val7 g i + g i % 128 * 128 ^ i = _
        rw [h0, show q % 128 = q by omega, ← hv, Nat.mul_comm]
      rw [if_neg (by omega), if_neg (by rw [h0, hv1]; omega), hv1]
      simp
theorem readV_back (z : Nat) (r : List Nat) (hz : z ≤ 4611686018427387903) : readV (fun i => (encN z ++ r).getD i 0) (encN z ++ r).length = (((z : Nat) : Int), ((encN z).length : Int), 0) := by
  have h := rd_back (fun i => (encN z ++ r).getD i 0) (encN z ++ r).length z hz 9 z 0 (fun j hj => by
    simp only [Nat.zero_add]
    rw [List.getD_eq_getElem?_getD, List.getD_eq_getElem?_getD, List.getElem?_append_left hj]) (by simp) (encN_len 8 z (by omega)) (by simp [val7]) (Or.inl rfl)
  unfold readV
  rw [h]
  simp
theorem shift_back (x r : List Nat) : (fun i => (x ++ r).getD (i + x.length) 0) = fun i => r.getD i 0 := by
  funext i
  rw [List.getD_eq_getElem?_getD, List.getD_eq_getElem?_getD, List.getElem?_append_right (by omega)]
  congr 2
  omega
theorem stL_bad (l : List Nat) : (stL l).bad = false := rfl
theorem next_back (z : Int) (r : List Nat) (hz : 0 ≤ z ∧ z ≤ 4611686018427387903) : nextS false (stL (encU z ++ r)) = (z, stL r) := by
  have h := readV_back z.toNat r (by omega)
  have h1 : (readV (stL (encU z ++ r)).g (stL (encU z ++ r)).m) = (((z.toNat : Nat) : Int), ((encN z.toNat).length : Int), 0) := h
  rw [nextS_good (k := (encN z.toNat).length) (by rw [h1]) rfl (by rw [h1]), h1]
  refine Prod.ext (by simp; omega) ?_
  show (⟨fun i => (encU z ++ r).getD (i + (encN z.toNat).length) 0, (encU z ++ r).length - (encN z.toNat).length, false⟩ : St) = ⟨_, _, _⟩
  rw [show (fun i => (encU z ++ r).getD (i + (encN z.toNat).length) 0) = fun i => r.getD i 0 from shift_back _ _]
  congr 1
  simp [encU]
theorem sign_back (z : Int) (k : Int) (hz : -2305843009213693952 ≤ z ∧ z ≤ 2305843009213693951) : signV (((zig z : Nat) : Int), k, 0) = (z, k, 0) := by
  by_cases h : z < 0
  · have hx : ((zig z : Nat) : Int) = -2 * z - 1 := by unfold zig; rw [if_pos h]; omega
    rw [hx]
    show (if (0 : Int) = 0 then (if (-2 * z - 1) % 2 = 1 then (-((-2 * z - 1) / 2) - 1, k, 0) else ((-2 * z - 1) / 2, k, 0)) else (0, 0, 0)) = (z, k, 0)
    rw [if_pos rfl, if_pos (by omega), show -((-2 * z - 1) / 2) - 1 = z by omega]
  · have hx : ((zig z : Nat) : Int) = 2 * z := by unfold zig; rw [if_neg h]; omega
    rw [hx]
    show (if (0 : Int) = 0 then (if (2 * z) % 2 = 1 then (-((2 * z) / 2) - 1, k, 0) else ((2 * z) / 2, k, 0)) else (0, 0, 0)) = (z, k, 0)
    rw [if_pos rfl, if_neg (by omega), show (2 * z) / 2 = z by omega]
theorem nextS_back (z : Int) (r : List Nat) (hz : -2305843009213693952 ≤ z ∧ z ≤ 2305843009213693951) : nextS true (stL (encS z ++ r)) = (z, stL r) := by
  have h := readV_back (zig z) r (by unfold zig; split <;> omega)
  have h1 : (readV (stL (encS z ++ r)).g (stL (encS z ++ r)).m) = (((zig z : Nat) : Int), ((encN (zig z)).length : Int), 0) := h
  rw [nextS_good (k := (encN (zig z)).length) (by rw [h1]) rfl (by rw [h1]), h1]
  refine Prod.ext (by simp [sign_back z _ hz]) ?_
  show (⟨fun i => (encS z ++ r).getD (i + (encN (zig z)).length) 0, (encS z ++ r).length - (encN (zig z)).length, false⟩ : St) = ⟨_, _, _⟩
  rw [show (fun i => (encS z ++ r).getD (i + (encN (zig z)).length) 0) = fun i => r.getD i 0 from shift_back _ _]
  congr 1
  simp [encS]

theorem rd_inv (g : Nat → Nat) (n : Nat) (hg : ∀ i, g i < 256) : ∀ (f i : Nat), (rd g n f i).2.2 = 0 → i ≤ n →
    ∃ q : Nat, (rd g n f i).1 = ((val7 g i + 128 ^ i * q : Nat) : Int) ∧ (rd g n f i).2.1 = ((i + (encN q).length : Nat) : Int) ∧ i + (encN q).length ≤ n ∧ (∀ j, j < (encN q).length → g (i + j) = (encN q).getD j 0) ∧ (i = 0 ∨ q ≠ 0)
  | 0, i, h, _ => by simp [rd] at h
  | f + 1, i, h, hi => by
    unfold rd at h ⊢
    by_cases hin : i = n
    · rw [if_pos hin] at h; exact absurd h (by decide)
    · rw [if_neg hin] at h ⊢
      have hgi := hg i
      by_cases hmore : 128 ≤ g i
      · rw [if_pos hmore] at h ⊢
        obtain ⟨q, h1, h2, h3, h4, h5⟩ := rd_inv g n hg f (i + 1) h (by omega)
        have hq : q ≠ 0 := by rcases h5 with h5 | h5 <;> omega
        have hlow : g i % 128 < 128 := Nat.mod_lt _ (by decide)
        have he : encN (g i % 128 + 128 * q) = g i :: encN q := by
          rw [encN_more (by omega), show (g i % 128 + 128 * q) % 128 + 128 = g i by omega, show (g i % 128 + 128 * q) / 128 = q by omega]
        refine ⟨g i % 128 + 128 * q, ?_, ?_, ?_, ?_, Or.inr (by omega)⟩
        · rw [h1]
          congr 1
          show val7 g i + g i % 128 * 128 ^ i + 128 ^ (i + 1) * q = _
          rw [Nat.pow_succ, Nat.mul_add, Nat.mul_comm (g i % 128), Nat.mul_assoc (128 ^ i) 128 q]
          omega
        · rw [h2, he, List.length_cons]
          congr 1
          omega
        · rw [he, List.length_cons]; omega
        · rw [he]
          intro j hj
          cases j with
          | zero => rfl
          | succ j =>
            rw [List.length_cons] at hj
            rw [show i + (j + 1) = i + 1 + j by omega, h4 j (by omega)]
            rfl
      · rw [if_neg hmore] at h ⊢
        by_cases hz : (g i = 0 ∧ 0 < i) ∨ 4611686018427387903 < val7 g (i + 1)
        · rw [if_pos hz] at h; exact absurd h (by decide)
        · rw [if_neg hz]
          have he : encN (g i) = [g i] := encN_last hmore
          refine ⟨g i, ?_, ?_, ?_, ?_, ?_⟩
          · show ((val7 g i + g i % 128 * 128 ^ i : Nat) : Int) = _
            rw [show g i % 128 = g i by omega, Nat.mul_comm]
          · rw [he]; simp
          · rw [he]; simp; omega
          · rw [he]
            intro j hj
            obtain rfl : j = 0 := by simpa using hj
            rfl
          · by_cases h0 : i = 0
            · exact Or.inl h0
            · exact Or.inr (fun e => hz (Or.inl ⟨e, by omega⟩))
theorem next_keep {sg : Bool} {s s' : St} {v : Int} (h : nextS sg s = (v, s')) (hb : s'.bad = false) : s.bad = false := by
  cases hs : s.bad with
  | false => rfl
  | true =>
    have := nextS_keeps sg s hs
    rw [h] at this
    rw [hb] at this
    exact absurd this (by decide)
theorem next_good {sg : Bool} {s s' : St} {v : Int} (h : nextS sg s = (v, s')) (hb : s'.bad = false) : (readV s.g s.m).2.2 = 0 := by
  refine Classical.byContradiction fun hn => ?_
  rw [nextS_bad (fun x => hn x.1)] at h
  injection h with _ h
  subst h
  exact Bool.noConfusion hb
/-- the bytes read -/
theorem next_inv {sg : Bool} {l : List Nat} {v : Int} {s' : St} (hl : ∀ x ∈ l, x < 256) (h : nextS sg (stL l) = (v, s')) (hb : s'.bad = false) :
    ∃ r, l = (if sg = true then encS v else encU v) ++ r ∧ s' = stL r := by
  have hok := next_good h hb
  obtain ⟨q, h1, h2, h3, h4, _⟩ := rd_inv (stL l).g (stL l).m (fun i => getD_byte hl i) 9 0 hok (Nat.zero_le _)
  have hv : readV (stL l).g (stL l).m = ((q : Int), ((encN q).length : Int), 0) := by
    refine Prod.ext ?_ (Prod.ext ?_ hok)
    · show (rd _ _ _ _).1 = _
      rw [h1]; simp [val7]
    · show (rd _ _ _ _).2.1 = _
      rw [h2]; simp
  have hlen : (encN q).length ≤ l.length := by
    have : 0 + (encN q).length ≤ l.length := h3
    omega
  have htake : l.take (encN q).length = encN q := by
    refine List.ext_getElem? fun j => ?_
    by_cases hj : j < (encN q).length
    · have := h4 j hj
      rw [Nat.zero_add] at this
      have h5 : l.getD j 0 = (encN q).getD j 0 := this
      rw [List.getElem?_take_of_lt hj]
      rw [List.getD_eq_getElem?_getD, List.getD_eq_getElem?_getD, List.getElem?_eq_getElem hj, List.getElem?_eq_getElem (show j < l.length by omega)] at h5
      rw [List.getElem?_eq_getElem hj, List.getElem?_eq_getElem (show j < l.length by omega)]
      simpa using h5
    · rw [List.getElem?_eq_none (by rw [List.length_take]; omega), List.getElem?_eq_none (by omega)]
  have hsp : l = encN q ++ l.drop (encN q).length := by
    have := List.take_append_drop (encN q).length l
    rw [htake] at this
    exact this.symm
  refine ⟨l.drop (encN q).length, ?_, ?_⟩
  · have hk := nextS_good (sg := sg) (k := (encN q).length) hok (stL_bad l) (by rw [hv])
    rw [h] at hk
    injection hk with hk _
    rw [hv] at hk
    cases sg with
    | false =>
      have : v = q := hk
      subst this
      rw [if_neg (by decide)]
      exact hsp
    | true =>
      have h6 : v = (signV ((q : Int), ((encN q).length : Int), 0)).1 := hk
      have h7 : zig v = q := by
        unfold signV at h6
        rw [if_pos rfl] at h6
        by_cases ho : (q : Int) % 2 = 1
        · rw [if_pos ho] at h6
          have h8 : v = -((q : Int) / 2) - 1 := h6
          unfold zig
          rw [if_pos (by omega)]
          omega
        · rw [if_neg ho] at h6
          have h8 : v = (q : Int) / 2 := h6
          unfold zig
          rw [if_neg (by omega)]
          omega
      rw [if_pos rfl]
      unfold encS
      rw [h7]
      exact hsp
  · have hk := nextS_good (sg := sg) (k := (encN q).length) hok (stL_bad l) (by rw [hv])
    rw [h] at hk
    injection hk with _ hk
    rw [hk]
    show (⟨fun i => l.getD (i + (encN q).length) 0, l.length - (encN q).length, false⟩ : St) = ⟨fun i => (l.drop (encN q).length).getD i 0, (l.drop (encN q).length).length, false⟩
    congr 1
    · funext i
      rw [List.getD_eq_getElem?_getD, List.getD_eq_getElem?_getD, List.getElem?_drop, Nat.add_comm]
    · rw [List.length_drop]
theorem nextU_inv {l : List Nat} {v : Int} {s' : St} (hl : ∀ x ∈ l, x < 256) (h : nextS false (stL l) = (v, s')) (hb : s'.bad = false) :
    ∃ r, l = encU v ++ r ∧ s' = stL r ∧ (∀ x ∈ r, x < 256) := by
  obtain ⟨r, h1, h2⟩ := next_inv hl h hb
  rw [if_neg (by decide)] at h1
  exact ⟨r, h1, h2, fun x hx => hl x (by rw [h1]; exact List.mem_append_right _ hx)⟩
theorem nextI_inv {l : List Nat} {v : Int} {s' : St} (hl : ∀ x ∈ l, x < 256) (h : nextS true (stL l) = (v, s')) (hb : s'.bad = false) :
    ∃ r, l = encS v ++ r ∧ s' = stL r ∧ (∀ x ∈ r, x < 256) := by
  obtain ⟨r, h1, h2⟩ := next_inv hl h hb
  rw [if_pos rfl] at h1
  exact ⟨r, h1, h2, fun x hx => hl x (by rw [h1]; exact List.mem_append_right _ hx)⟩
theorem encP_list (l : Int) (p : Pt) (r : List Nat) : encP l p ++ r = encU (p.id - l) ++ (encS p.x ++ (encS p.y ++ (encS p.zl ++ (encU (p.zh - p.zl) ++ (encU p.wd ++ (encU p.nm ++ (encU p.of ++ (encU p.cl ++ r)))))))) := by
  simp [encP, encs]
def NumF : Int → List Pt → Prop
  | _, [] => True
  | l, p :: P => NumP l p ∧ NumF p.id P
theorem numF_of : ∀ (l : Int) (P : List Pt), (∀ k p, P[k]? = some p → NumP (endL l (P.take k)) p) → NumF l P
  | _, [], _ => trivial
  | _, p :: P, h => ⟨h 0 p rfl, numF_of p.id P (fun k q hq => h (k + 1) q hq)⟩
theorem ptR_back {l : Int} {p : Pt} (h : NumP l p) (r : List Nat) : ptR l (stL (encP l p ++ r)) = (p, stL r) := by
  rw [encP_list]
  have a0 := next_back (p.id - l) (encS p.x ++ (encS p.y ++ (encS p.zl ++ (encU (p.zh - p.zl) ++ (encU p.wd ++ (encU p.nm ++ (encU p.of ++ (encU p.cl ++ r)))))))) (by have := h.id; omega)
  have a1 := nextS_back p.x (encS p.y ++ (encS p.zl ++ (encU (p.zh - p.zl) ++ (encU p.wd ++ (encU p.nm ++ (encU p.of ++ (encU p.cl ++ r))))))) (by have := h.x; omega)
  have a2 := nextS_back p.y (encS p.zl ++ (encU (p.zh - p.zl) ++ (encU p.wd ++ (encU p.nm ++ (encU p.of ++ (encU p.cl ++ r)))))) (by have := h.y; omega)
  have a3 := nextS_back p.zl (encU (p.zh - p.zl) ++ (encU p.wd ++ (encU p.nm ++ (encU p.of ++ (encU p.cl ++ r))))) (by have := h.z; omega)
  have a4 := next_back (p.zh - p.zl) (encU p.wd ++ (encU p.nm ++ (encU p.of ++ (encU p.cl ++ r)))) (by have := h.z; have := h.h; omega)
  have a5 := next_back p.wd (encU p.nm ++ (encU p.of ++ (encU p.cl ++ r))) (by have := h.wd; omega)
  have a6 := next_back p.nm (encU p.of ++ (encU p.cl ++ r)) (by have := h.nm; omega)
  have a7 := next_back p.of (encU p.cl ++ r) (by have := h.of; omega)
  have a8 := next_back p.cl r (by have := h.cl; omega)
  have c0 : ¬ (1152921504606846976 < p.id - l) := by have := h.i; have := h.l; omega
  have c1 : ¬ (p.zl < -268435456 ∨ 268435456 < p.zl ∨ 536870912 < p.zh - p.zl ∨ 1152921504606846976 < l + (p.id - l)) := by have := h.i; have := h.z; have := h.h; omega
  unfold ptR
  simp only [a0, if_neg c0, a1, a2, a3, a4, if_neg c1, a5, a6, a7, a8]
  have e1 : l + (p.id - l) = p.id := by omega
  have e2 : p.zl + (p.zh - p.zl) = p.zh := by omega
  rw [e1, e2]
theorem ptsR_back : ∀ (l : Int) (P : List Pt), NumF l P → ∀ r, ptsR P.length l (stL (encPs l P ++ r)) = (P, stL r)
  | _, [], _, r => rfl
  | l, p :: P, h, r => by
    have h1 := ptR_back h.1 (encPs p.id P ++ r)
    have h2 := ptsR_next (f := P.length) (stL_bad _) h1
    rw [show encPs l (p :: P) ++ r = encP l p ++ (encPs p.id P ++ r) from List.append_assoc _ _ _, List.length_cons, h2, ptsR_back p.id P h.2 r]
theorem be4 {g : Nat → Nat} {c : Nat} (hc : c < 4294967296) (h0 : g 0 = c / 16777216 % 256) (h1 : g 1 = c / 65536 % 256) (h2 : g 2 = c / 256 % 256) (h3 : g 3 = c % 256) : (be g 4).toNat = c := by
  have step : ∀ (x : BitVec 32) (y : Nat), y < 256 → ((x <<< 8) ||| BitVec.ofNat 32 y).toNat = x.toNat * 256 % 4294967296 + y := fun x y hy => by
    have e1 : (x <<< 8).toNat = x.toNat * 256 % 4294967296 := by rw [BitVec.toNat_shiftLeft, Nat.shiftLeft_eq]
    rw [BitVec.toNat_or, e1, BitVec.toNat_ofNat, Nat.mod_eq_of_lt (show y < 2 ^ 32 by omega)]
    have e2 : x.toNat * 256 % 4294967296 = 2 ^ 8 * (x.toNat % 16777216) := by omega
    rw [e2, ← Nat.two_pow_add_eq_or_of_lt (by omega)]
  show ((((((((0#32 <<< 8) ||| BitVec.ofNat 32 (g 0)) <<< 8) ||| BitVec.ofNat 32 (g 1)) <<< 8) ||| BitVec.ofNat 32 (g 2)) <<< 8) ||| BitVec.ofNat 32 (g 3)).toNat = c
  rw [step _ _ (by omega), step _ _ (by omega), step _ _ (by omega), step _ _ (by omega)]
  rw [h0, h1, h2, h3]
  simp
  omega
theorem be4_inv {g : Nat → Nat} {c : Nat} (hg : ∀ i, g i < 256) (h : (be g 4).toNat = c) : g 0 = c / 16777216 % 256 ∧ g 1 = c / 65536 % 256 ∧ g 2 = c / 256 % 256 ∧ g 3 = c % 256 := by
  have step : ∀ (x : BitVec 32) (y : Nat), y < 256 → ((x <<< 8) ||| BitVec.ofNat 32 y).toNat = x.toNat * 256 % 4294967296 + y := fun x y hy => by
    have e1 : (x <<< 8).toNat = x.toNat * 256 % 4294967296 := by rw [BitVec.toNat_shiftLeft, Nat.shiftLeft_eq]
    rw [BitVec.toNat_or, e1, BitVec.toNat_ofNat, Nat.mod_eq_of_lt (show y < 2 ^ 32 by omega)]
    have e2 : x.toNat * 256 % 4294967296 = 2 ^ 8 * (x.toNat % 16777216) := by omega
    rw [e2, ← Nat.two_pow_add_eq_or_of_lt (by omega)]
  have h' : ((((((((0#32 <<< 8) ||| BitVec.ofNat 32 (g 0)) <<< 8) ||| BitVec.ofNat 32 (g 1)) <<< 8) ||| BitVec.ofNat 32 (g 2)) <<< 8) ||| BitVec.ofNat 32 (g 3)).toNat = c := h
  have g0 := hg 0
  have g1 := hg 1
  have g2 := hg 2
  have g3 := hg 3
  rw [step _ _ g3, step _ _ g2, step _ _ g1, step _ _ g0] at h'
  simp at h'
  omega
theorem crcL_take (l : List Nat) {n : Nat} (hn : n ≤ l.length) : crcV (fun i => l.getD i 0) n = crcL (l.take n) := by
  unfold crcL crcV
  rw [List.length_take, Nat.min_eq_left hn]
  rw [bytesP_congr n (fun i hi => show l.getD i 0 = (l.take n).getD i 0 by rw [List.getD_eq_getElem?_getD, List.getD_eq_getElem?_getD, List.getElem?_take_of_lt hi])]
theorem sumOk_iff {l : List Nat} (hl : ∀ x ∈ l, x < 256) {n : Nat} (hn : l.length = n + 4) : SumOk l n ↔ l = l.take n ++ bytes4 (crcL (l.take n)) := by
  unfold SumOk
  rw [crcL_take l (by omega)]
  have hlt := crcL_lt (l.take n)
  generalize crcL (l.take n) = c at *
  have hat : ∀ j, j < 4 → (l.drop n)[j]? = some (l.getD (n + j) 0) := fun j hj => by
    rw [List.getElem?_drop, List.getD_eq_getElem?_getD, List.getElem?_eq_getElem (show n + j < l.length by omega)]
    rfl
  have hd : l.drop n = [l.getD (n + 0) 0, l.getD (n + 1) 0, l.getD (n + 2) 0, l.getD (n + 3) 0] := by
    refine List.ext_getElem? fun j => ?_
    match j with
    | 0 => exact hat 0 (by omega)
    | 1 => exact hat 1 (by omega)
    | 2 => exact hat 2 (by omega)
    | 3 => exact hat 3 (by omega)
    | j + 4 =>
      rw [List.getElem?_eq_none (by rw [List.length_drop]; omega)]
      rfl
  have hsplit := List.take_append_drop n l
  constructor
  · intro h
    obtain ⟨h0, h1, h2, h3⟩ := be4_inv (g := fun i => l.getD (n + i) 0) (fun i => getD_byte hl (n + i)) h
    rw [hd] at hsplit
    rw [h0, h1, h2, h3] at hsplit
    exact hsplit.symm
  · intro h
    have h2 : l.drop n = bytes4 c := by
      exact List.append_cancel_left (hsplit.trans h)
    rw [hd] at h2
    unfold bytes4 at h2
    injection h2 with e0 h2
    injection h2 with e1 h2
    injection h2 with e2 h2
    injection h2 with e3 h2
    exact be4 hlt e0 e1 e2 e3
end Go.Proofs.Ytpablkmdpoombaa

/- DecRP -/
namespace Go.Proofs.Ytpablkmdpoombaa
open Go.RowKit

set_option maxRecDepth 100000 in
set_option maxHeartbeats 25600000 in
theorem rpoints_any (rb b N : Nat) (s : St) (w : World) (hNN : N ≤ 1025) (h : RdAt w rb 96 b s) :
    Calls Try.prog 47 #[.pointer (some ⟨rb, 0, none⟩), .int .i64 N] w fun r w' => (∃ v, r = .returned v ∧ OwnP w' w.heap.size v (ptsR N 0 s).1 ∧ (ptsR N 0 s).1.length ≤ 1025) ∧ RdAt w' rb 96 b (ptsR N 0 s).2 ∧ Only rb w.heap.size w w' := by
  have hrb := h.rb_lt
  have hbl := h.b_lt
  have hne := h.apart
  obtain ⟨i0, hi, hz0, hz1, hz2⟩ := info_parts info36
  have HI := hid hi
  have HZ0 := hid hz0
  have HZ1 := hid hz1
  have HZ2 := hid hz2
  have R1 := hid h
  clear h hi hz0 hz1 hz2
  go_enter Try.func47, Try.ntmps47
  go_wp2_with fail
  go_loopw [5, 6, 7] (fun ov' lv iv W => ∃ (i : Nat) (A : List Pt) (l : Int) (s2 : St) (oa : Option Addr) (on oc : Nat), ov' = .slice oa on oc ∧ i ≤ N ∧ A.length = i ∧ iv = .int .i64 (i : Int) ∧ lv = .int .i64 l ∧ OwnP W w.heap.size (.slice oa on oc) A ∧ RdAt W rb 96 b s2 ∧ Only rb w.heap.size w W ∧ (s2.bad = false → 0 ≤ l ∧ l ≤ 1152921504606846976) ∧ ptsR N 0 s = (A ++ (ptsR (N - i) l s2).1, (ptsR (N - i) l s2).2)) (fun _ _ iv _ => N - (intOf iv).toNat)
  case atStart => exact ⟨0, [], 0, s, none, 0, 0, rfl, by omega, rfl, rfl, rfl, OwnR.nil _ _ _ _, R1.out, Only.refl _ _ _, fun _ => ⟨Int.le_refl _, by decide⟩, rfl⟩
  case round =>
    obtain ⟨i, A, l, s2, oa, on, oc, rfl, hi, hA, rfl, rfl, hown, hrd, hol, hl, he⟩ := hrel
    have HA := hid hA
    have HO := hid hown
    have R2 := hid hrd
    have O2 := hid hol
    have HL := hid hl
    have HE := hid he
    have hz2 := hol.size
    have fb := hrd.flag.1
    clear hA hown hrd hol hl he
    by_cases hlt : i < N
    · have d1 : decide ((i : Int) < (N : Int)) = true := decide_eq_true (by omega)
      cases hbad : s2.bad
      · rw [hbad] at fb
        have hl := HL.out hbad
        have HBD := hid hbad
        clear hbad HL
        obtain ⟨pb, hpb⟩ : ∃ pb, pb = wr.heap.size := ⟨_, rfl⟩
        have hpw : wr.heap.size ≤ pb := by omega
        rcases e0 : nextS false s2 with ⟨v0, t1⟩
        have q0 := nextU_range s2
        rw [e0] at q0
        simp only at q0
        have E0 := hid e0
        clear e0
        by_cases hb0 : 1152921504606846976 < v0
        · have db0 : decide ((1152921504606846976 : Int) < v0) = true := decide_eq_true hb0
          have dg : decide ((1152921504606846976 : Int) < l + v0) = true := decide_eq_true (by omega)
          have eF : nextS false t1.mark = (0, t1.mark) := nextS_bad (fun h => by simp [St.mark] at h)
          have eT : nextS true t1.mark = (0, t1.mark) := nextS_bad (fun h => by simp [St.mark] at h)
          have HPT := hid (show ptR l s2 = (⟨l + v0, 0, 0, 0, 0, 0, 0, 0, 0⟩, t1.mark) by
            unfold ptR
            simp only [E0.out, if_pos hb0, eT, eF]
            rw [if_pos (Or.inr (Or.inr (Or.inr (by omega))))]
            simp only [show t1.mark.mark = t1.mark from rfl, eF]
            simp)
          have E1 := hid eT
          have E2 := hid eT
          have E3 := hid eT
          have E4 := hid eF
          have E6 := hid eF
          have E7 := hid eF
          have E8 := hid eF
          have E5 := hid (show nextS false t1.mark.mark = (0, t1.mark) from eF)
          clear eT eF hb0
          have FA := hid (heap_alloc_at wr (.cells #[.int .i64 0, .int .i64 0, .int .i64 0, .int .i64 0, .int .i64 0, .int .i64 0, .int .i64 0, .int .i64 0, .int .i64 0] 78) pb hpb)
          have RA := hid (R2.out.alloc (.cells #[.int .i64 0, .int .i64 0, .int .i64 0, .int .i64 0, .int .i64 0, .int .i64 0, .int .i64 0, .int .i64 0, .int .i64 0] 78))
          have OA := hid ((Only.refl rb wr.heap.size wr).alloc (Nat.le_refl _) (.cells #[.int .i64 0, .int .i64 0, .int .i64 0, .int .i64 0, .int .i64 0, .int .i64 0, .int .i64 0, .int .i64 0, .int .i64 0] 78))
          have zA : (wr.alloc (.cells #[.int .i64 0, .int .i64 0, .int .i64 0, .int .i64 0, .int .i64 0, .int .i64 0, .int .i64 0, .int .i64 0, .int .i64 0] 78)).heap.size = pb + 1 := by simp [hpb]
          have HPB := hid hpb
          clear hpb
          go_wp2_with fail
          rw [← HPB.out]
          clear HPB
          generalize wr.alloc (.cells #[.int .i64 0, .int .i64 0, .int .i64 0, .int .i64 0, .int .i64 0, .int .i64 0, .int .i64 0, .int .i64 0, .int .i64 0] 78) = W3 at *
          refine (rnum_at _ E0.out RA.out).mono ?_
          rintro r w5 ⟨rfl, hrd, hol⟩
          have R5 := hid hrd
          have F5 := hid (show w5.heap[pb]? = some (.cells #[.int .i64 0, .int .i64 0, .int .i64 0, .int .i64 0, .int .i64 0, .int .i64 0, .int .i64 0, .int .i64 0, .int .i64 0] 78) from hol.heap (by omega) FA.out)
          have O5 := hid (OA.out.trans hol (by omega))
          have hz5 : pb < w5.heap.size := (Array.getElem?_eq_some_iff.1 F5.out).1
          clear hrd hol fb
          have yb := R5.out.flag.1
          have yf := R5.out.flag.2
          have RY := hid R5.out.mark
          have FY := hid (heap_set_other (j := 1) (g := rb) F5.out (by omega) (.bool true))
          have OY := hid (only_setCell (j := 1) O5.out (.bool true))
          have c5 : (w5.setCell ⟨rb, 1, none⟩ (.bool true)).cell? ⟨pb, 0, none⟩ = some (.int .i64 0) := (cell_row (j := 0) FY.out).trans rfl
          have f5 : (w5.setCell ⟨rb, 1, none⟩ (.bool true)).frozen? ⟨pb, 0, none⟩ = false := by have hh := FY.out; simp [World.frozen?, hh]
          go_wp2_with fail
          refine (rsig_at _ E1.out (RY.out.set (by omega) (by omega) _)).mono ?_
          rintro r w6 ⟨rfl, hrd, hol⟩
          have R6 := hid hrd
          have F6 := hid (show w6.heap[pb]? = some (.cells #[.int .i64 (l + v0), .int .i64 0, .int .i64 0, .int .i64 0, .int .i64 0, .int .i64 0, .int .i64 0, .int .i64 0, .int .i64 0] 78) from hol.heap (by omega) (heap_setCell FY.out _))
          have O6 := hid ((OY.out.set (by omega) _).trans hol (by first | omega | (simp; omega)))
          have hz6 : pb < w6.heap.size := (Array.getElem?_eq_some_iff.1 F6.out).1
          clear hrd hol
          have c6 : w6.cell? ⟨pb, 1, none⟩ = some (.int .i64 0) := (cell_row (j := 1) F6.out).trans rfl
          have f6 : w6.frozen? ⟨pb, 1, none⟩ = false := by have hh := F6.out; simp [World.frozen?, hh]
          go_wp2_with fail
          refine (rsig_at _ E2.out (R6.out.set (by omega) (by omega) _)).mono ?_
          rintro r w7 ⟨rfl, hrd, hol⟩
          have R7 := hid hrd
          have F7 := hid (show w7.heap[pb]? = some (.cells #[.int .i64 (l + v0), .int .i64 0, .int .i64 0, .int .i64 0, .int .i64 0, .int .i64 0, .int .i64 0, .int .i64 0, .int .i64 0] 78) from hol.heap (by omega) (heap_setCell F6.out _))
          have O7 := hid ((O6.out.set (by omega) _).trans hol (by first | omega | (simp; omega)))
          have hz7 : pb < w7.heap.size := (Array.getElem?_eq_some_iff.1 F7.out).1
          clear hrd hol
          have c7 : w7.cell? ⟨pb, 2, none⟩ = some (.int .i64 0) := (cell_row (j := 2) F7.out).trans rfl
          have f7 : w7.frozen? ⟨pb, 2, none⟩ = false := by have hh := F7.out; simp [World.frozen?, hh]
          go_wp2_with fail
          refine (rsig_at _ E3.out (R7.out.set (by omega) (by omega) _)).mono ?_
          rintro r w8 ⟨rfl, hrd, hol⟩
          have R8 := hid hrd
          have F8 := hid (show w8.heap[pb]? = some (.cells #[.int .i64 (l + v0), .int .i64 0, .int .i64 0, .int .i64 0, .int .i64 0, .int .i64 0, .int .i64 0, .int .i64 0, .int .i64 0] 78) from hol.heap (by omega) (heap_setCell F7.out _))
          have O8 := hid ((O7.out.set (by omega) _).trans hol (by first | omega | (simp; omega)))
          have hz8 : pb < w8.heap.size := (Array.getElem?_eq_some_iff.1 F8.out).1
          clear hrd hol
          have c8 : w8.cell? ⟨pb, 3, none⟩ = some (.int .i64 0) := (cell_row (j := 3) F8.out).trans rfl
          have f8 : w8.frozen? ⟨pb, 3, none⟩ = false := by have hh := F8.out; simp [World.frozen?, hh]
          go_wp2_with fail
          refine (rnum_at _ E4.out (R8.out.set (by omega) (by omega) _)).mono ?_
          rintro r w9 ⟨rfl, hrd, hol⟩
          have R9 := hid hrd
          have F9 := hid (show w9.heap[pb]? = some (.cells #[.int .i64 (l + v0), .int .i64 0, .int .i64 0, .int .i64 0, .int .i64 0, .int .i64 0, .int .i64 0, .int .i64 0, .int .i64 0] 78) from hol.heap (by omega) (heap_setCell F8.out _))
          have O9 := hid ((O8.out.set (by omega) _).trans hol (by first | omega | (simp; omega)))
          have hz9 : pb < w9.heap.size := (Array.getElem?_eq_some_iff.1 F9.out).1
          clear hrd hol
          clear c5 f5 c6 f6 c7 f7 c8 f8
          have y3 : w9.cell? ⟨pb, 3, none⟩ = some (.int .i64 0) := (cell_row (j := 3) F9.out).trans rfl
          have y0 : w9.cell? ⟨pb, 0, none⟩ = some (.int .i64 (l + v0)) := (cell_row (j := 0) F9.out).trans rfl
          have yb2 := R9.out.flag.1
          have yf2 := R9.out.flag.2
          have RZ := hid R9.out.mark
          have FZ := hid (heap_set_other (j := 1) (g := rb) F9.out (by omega) (.bool true))
          have OZ := hid (only_setCell (j := 1) O9.out (.bool true))
          have y3b : (w9.setCell ⟨rb, 1, none⟩ (.bool true)).cell? ⟨pb, 3, none⟩ = some (.int .i64 0) := (cell_row (j := 3) FZ.out).trans rfl
          have c9 : (w9.setCell ⟨rb, 1, none⟩ (.bool true)).cell? ⟨pb, 4, none⟩ = some (.int .i64 0) := (cell_row (j := 4) FZ.out).trans rfl
          have f9 : (w9.setCell ⟨rb, 1, none⟩ (.bool true)).frozen? ⟨pb, 4, none⟩ = false := by have hh := FZ.out; simp [World.frozen?, hh]
          go_wp2_with fail
          refine (rnum_at _ E5.out (RZ.out.set (by omega) (by omega) _)).mono ?_
          rintro r w10 ⟨rfl, hrd, hol⟩
          have R10 := hid hrd
          have F10 := hid (show w10.heap[pb]? = some (.cells #[.int .i64 (l + v0), .int .i64 0, .int .i64 0, .int .i64 0, .int .i64 0, .int .i64 0, .int .i64 0, .int .i64 0, .int .i64 0] 78) from hol.heap (by omega) (heap_setCell FZ.out _))
          have O10 := hid ((OZ.out.set (by omega) _).trans hol (by first | omega | (simp; omega)))
          have hz10 : pb < w10.heap.size := (Array.getElem?_eq_some_iff.1 F10.out).1
          clear hrd hol
          have c10 : w10.cell? ⟨pb, 5, none⟩ = some (.int .i64 0) := (cell_row (j := 5) F10.out).trans rfl
          have f10 : w10.frozen? ⟨pb, 5, none⟩ = false := by have hh := F10.out; simp [World.frozen?, hh]
          go_wp2_with fail
          refine (rnum_at _ E6.out (R10.out.set (by omega) (by omega) _)).mono ?_
          rintro r w11 ⟨rfl, hrd, hol⟩
          have R11 := hid hrd
          have F11 := hid (show w11.heap[pb]? = some (.cells #[.int .i64 (l + v0), .int .i64 0, .int .i64 0, .int .i64 0, .int .i64 0, .int .i64 0, .int .i64 0, .int .i64 0, .int .i64 0] 78) from hol.heap (by omega) (heap_setCell F10.out _))
          have O11 := hid ((O10.out.set (by omega) _).trans hol (by first | omega | (simp; omega)))
          have hz11 : pb < w11.heap.size := (Array.getElem?_eq_some_iff.1 F11.out).1
          clear hrd hol
          have c11 : w11.cell? ⟨pb, 6, none⟩ = some (.int .i64 0) := (cell_row (j := 6) F11.out).trans rfl
          have f11 : w11.frozen? ⟨pb, 6, none⟩ = false := by have hh := F11.out; simp [World.frozen?, hh]
          go_wp2_with fail
          refine (rnum_at _ E7.out (R11.out.set (by omega) (by omega) _)).mono ?_
          rintro r w12 ⟨rfl, hrd, hol⟩
          have R12 := hid hrd
          have F12 := hid (show w12.heap[pb]? = some (.cells #[.int .i64 (l + v0), .int .i64 0, .int .i64 0, .int .i64 0, .int .i64 0, .int .i64 0, .int .i64 0, .int .i64 0, .int .i64 0] 78) from hol.heap (by omega) (heap_setCell F11.out _))
          have O12 := hid ((O11.out.set (by omega) _).trans hol (by first | omega | (simp; omega)))
          have hz12 : pb < w12.heap.size := (Array.getElem?_eq_some_iff.1 F12.out).1
          clear hrd hol
          have c12 : w12.cell? ⟨pb, 7, none⟩ = some (.int .i64 0) := (cell_row (j := 7) F12.out).trans rfl
          have f12 : w12.frozen? ⟨pb, 7, none⟩ = false := by have hh := F12.out; simp [World.frozen?, hh]
          go_wp2_with fail
          refine (rnum_at _ E8.out (R12.out.set (by omega) (by omega) _)).mono ?_
          rintro r w13 ⟨rfl, hrd, hol⟩
          have R13 := hid hrd
          have F13 := hid (show w13.heap[pb]? = some (.cells #[.int .i64 (l + v0), .int .i64 0, .int .i64 0, .int .i64 0, .int .i64 0, .int .i64 0, .int .i64 0, .int .i64 0, .int .i64 0] 78) from hol.heap (by omega) (heap_setCell F12.out _))
          have O13 := hid ((O12.out.set (by omega) _).trans hol (by first | omega | (simp; omega)))
          have hz13 : pb < w13.heap.size := (Array.getElem?_eq_some_iff.1 F13.out).1
          clear hrd hol
          have c13 : w13.cell? ⟨pb, 8, none⟩ = some (.int .i64 0) := (cell_row (j := 8) F13.out).trans rfl
          have f13 : w13.frozen? ⟨pb, 8, none⟩ = false := by have hh := F13.out; simp [World.frozen?, hh]
          have RX := hid (show RdAt (w13.setCell ⟨pb, 8, none⟩ (.int .i64 0)) rb 96 b t1.mark from (R13.out.set (by omega) (by omega) _))
          have FX := hid (show (w13.setCell ⟨pb, 8, none⟩ (.int .i64 0)).heap[pb]? = some (.cells #[.int .i64 (l + v0), .int .i64 0, .int .i64 0, .int .i64 0, .int .i64 0, .int .i64 0, .int .i64 0, .int .i64 0, .int .i64 0] 78) from (heap_setCell F13.out _))
          have OX := hid (show Only rb wr.heap.size wr (w13.setCell ⟨pb, 8, none⟩ (.int .i64 0)) from (O13.out.set (by omega) _))
          have d0 : (w13.setCell ⟨pb, 8, none⟩ (.int .i64 0)).cell? ⟨pb, 0, none⟩ = some (.int .i64 (l + v0)) := (cell_row (j := 0) FX.out).trans rfl
          have d1 : (w13.setCell ⟨pb, 8, none⟩ (.int .i64 0)).cell? ⟨pb, 1, none⟩ = some (.int .i64 0) := (cell_row (j := 1) FX.out).trans rfl
          have d2 : (w13.setCell ⟨pb, 8, none⟩ (.int .i64 0)).cell? ⟨pb, 2, none⟩ = some (.int .i64 0) := (cell_row (j := 2) FX.out).trans rfl
          have d3 : (w13.setCell ⟨pb, 8, none⟩ (.int .i64 0)).cell? ⟨pb, 3, none⟩ = some (.int .i64 0) := (cell_row (j := 3) FX.out).trans rfl
          have d4 : (w13.setCell ⟨pb, 8, none⟩ (.int .i64 0)).cell? ⟨pb, 4, none⟩ = some (.int .i64 0) := (cell_row (j := 4) FX.out).trans rfl
          have d5 : (w13.setCell ⟨pb, 8, none⟩ (.int .i64 0)).cell? ⟨pb, 5, none⟩ = some (.int .i64 0) := (cell_row (j := 5) FX.out).trans rfl
          have d6 : (w13.setCell ⟨pb, 8, none⟩ (.int .i64 0)).cell? ⟨pb, 6, none⟩ = some (.int .i64 0) := (cell_row (j := 6) FX.out).trans rfl
          have d7 : (w13.setCell ⟨pb, 8, none⟩ (.int .i64 0)).cell? ⟨pb, 7, none⟩ = some (.int .i64 0) := (cell_row (j := 7) FX.out).trans rfl
          have d8 : (w13.setCell ⟨pb, 8, none⟩ (.int .i64 0)).cell? ⟨pb, 8, none⟩ = some (.int .i64 0) := (cell_row (j := 8) FX.out).trans rfl
          have HRK := hid (RowsAt.one (heap_alloc_at (w13.setCell ⟨pb, 8, none⟩ (.int .i64 0)) _ _ (by simp)) : RowsAt ((w13.setCell ⟨pb, 8, none⟩ (.int .i64 0)).alloc (.cells #[.int .i64 (l + v0), .int .i64 0, .int .i64 0, .int .i64 0, .int .i64 0, .int .i64 0, .int .i64 0, .int .i64 0, .int .i64 0] 78)) w13.heap.size 0 9 [[.int .i64 (l + v0), .int .i64 0, .int .i64 0, .int .i64 0, .int .i64 0, .int .i64 0, .int .i64 0, .int .i64 0, .int .i64 0]])
          have HOA := hid (OwnR.grow (W' := (w13.setCell ⟨pb, 8, none⟩ (.int .i64 0)).alloc (.cells #[.int .i64 (l + v0), .int .i64 0, .int .i64 0, .int .i64 0, .int .i64 0, .int .i64 0, .int .i64 0, .int .i64 0, .int .i64 0] 78)) (HO.out.only OX.out (Nat.le_refl _) hrb) ((Below.refl _ _).alloc (Nat.le_refl _) _) : OwnR _ w.heap.size 78 9 (.slice oa on oc) (A.map Pt.row))
          have RB := hid (RX.out.alloc (.cells #[.int .i64 (l + v0), .int .i64 0, .int .i64 0, .int .i64 0, .int .i64 0, .int .i64 0, .int .i64 0, .int .i64 0, .int .i64 0] 78))
          have OB := hid ((O2.out.trans OX.out O2.out.size).alloc (by have := O2.out.size; simp; omega) (.cells #[.int .i64 (l + v0), .int .i64 0, .int .i64 0, .int .i64 0, .int .i64 0, .int .i64 0, .int .i64 0, .int .i64 0, .int .i64 0] 78))
          have HL1 := hid (show (A.map Pt.row).length + 1 ≤ maxLen by rw [List.length_map, HA.out]; unfold maxLen; omega)
          have HL2 := hid (show ((A.map Pt.row).length + 1) * 72 ≤ 140737488355328 by rw [List.length_map, HA.out]; omega)
          have HBS := hid (show w.heap.size ≤ ((w13.setCell ⟨pb, 8, none⟩ (.int .i64 0)).alloc (.cells #[.int .i64 (l + v0), .int .i64 0, .int .i64 0, .int .i64 0, .int .i64 0, .int .i64 0, .int .i64 0, .int .i64 0, .int .i64 0] 78)).heap.size by have := O2.out.size; simp; omega)
          go_wp2_with (first
            | (at_builtin
               go_loud (refine wpList_append_rows rfl (.tmp 89) (.tmp 91) 22 rfl w.heap.size 78 i0 _ 9 72 Try.underlying22 HI.out HZ0.out HZ1.out HZ2.out rfl (by decide) _ (A.map Pt.row) [[.int .i64 (l + v0), .int .i64 0, .int .i64 0, .int .i64 0, .int .i64 0, .int .i64 0, .int .i64 0, .int .i64 0, .int .i64 0]] rfl HOA.out w13.heap.size 0 1 1 rfl rfl HRK.out (wide9d _ _ _ _ _ _ _ _ _) HL1.out HL2.out HBS.out ?_)
               intro v10 W6 hown6 hg6 z6
               clear z6
               have HO6 := hid (show OwnP W6 w.heap.size v10 (A ++ [⟨(l + v0), 0, 0, 0, 0, 0, 0, 0, 0⟩]) by unfold OwnP; rw [List.map_append]; exact hown6)
               have R6X := hid (RB.out.kept hg6 (fun e => by have := OwnR.ownBlock HOA.out rb e.symm; omega) (fun e => by have := OwnR.ownBlock HOA.out b e.symm; omega))
               have O6X := hid (OB.out.kept hg6 (by have := O2.out.size; simp; omega) (fun k e => OwnR.ownBlock HOA.out k e))
               clear hown6 hg6))
          obtain ⟨oa6, oc6, hv6⟩ := HO6.out.slice
          refine ⟨⟨i + 1, A ++ [⟨(l + v0), 0, 0, 0, 0, 0, 0, 0, 0⟩], l + v0, t1.mark, oa6, _, oc6, hv6, by omega, by simp [HA.out], by go_num, rfl, hv6 ▸ HO6.out, R6X.out, O6X.out, fun hb => ?_, ?_⟩, by simp [intOf]; omega⟩
          · exact absurd hb (by simp [St.mark])
          · rw [HE.out, show N - i = (N - (i + 1)) + 1 by omega, ptsR_next HBD.out HPT.out]
            simp
        · have db0 : decide ((1152921504606846976 : Int) < v0) = false := decide_eq_false hb0
          rcases e1 : nextS true t1 with ⟨v1, t2⟩
          rcases e2 : nextS true t2 with ⟨v2, t3⟩
          rcases e3 : nextS true t3 with ⟨v3, t4⟩
          rcases e4 : nextS false t4 with ⟨v4, t5⟩
          have q3 := nextI_range t3
          have q4 := nextU_range t4
          rw [e3] at q3
          rw [e4] at q4
          simp only at q3 q4
          have HP0 := hid (show ∀ s5, s5 = (if v3 < -268435456 ∨ 268435456 < v3 ∨ 536870912 < v4 ∨ 1152921504606846976 < l + v0 then t5.mark else t5) → ptR l s2 = (⟨l + v0, v1, v2, v3, v3 + v4, (nextS false s5).1, (nextS false (nextS false s5).2).1, (nextS false (nextS false (nextS false s5).2).2).1, (nextS false (nextS false (nextS false (nextS false s5).2).2).2).1⟩, (nextS false (nextS false (nextS false (nextS false s5).2).2).2).2) from fun s5 hs5 => by
            unfold ptR
            simp only [E0.out, if_neg hb0, e1, e2, e3, e4]
            rw [← hs5])
          have E1 := hid e1
          have E2 := hid e2
          have E3 := hid e3
          have E4 := hid e4
          clear e1 e2 e3 e4 hb0
          by_cases h1 : v3 < -268435456
          · skip
            have hs5 : t5.mark = (if v3 < -268435456 ∨ 268435456 < v3 ∨ 536870912 < v4 ∨ 1152921504606846976 < l + v0 then t5.mark else t5) := (if_pos (Or.inl h1)).symm
            have hpt := HP0.out _ hs5
            rcases e5 : nextS false t5.mark with ⟨v5, t6⟩
            rcases e6 : nextS false t6 with ⟨v6, t7⟩
            rcases e7 : nextS false t7 with ⟨v7, t8⟩
            rcases e8 : nextS false t8 with ⟨v8, t9⟩
            simp only [e5, e6, e7, e8] at hpt
            have HPT := hid hpt
            have HBB := hid (show t9.bad = false → 0 ≤ l + v0 ∧ l + v0 ≤ 1152921504606846976 from fun hb => by
              have k5 : (t5.mark).bad = true := rfl
              have k6 := nextS_keeps false _ k5; rw [e5] at k6
              have k7 := nextS_keeps false _ k6; rw [e6] at k7
              have k8 := nextS_keeps false _ k7; rw [e7] at k8
              have k9 := nextS_keeps false _ k8; rw [e8] at k9
              exact absurd (hb.symm.trans k9) (by decide))
            have k1 : decide (v3 < (-268435456 : Int)) = true := decide_eq_true h1
            have E5 := hid e5
            have E6 := hid e6
            have E7 := hid e7
            have E8 := hid e8
            clear e5 e6 e7 e8 hs5 hpt HP0 h1
            have FA := hid (heap_alloc_at wr (.cells #[.int .i64 0, .int .i64 0, .int .i64 0, .int .i64 0, .int .i64 0, .int .i64 0, .int .i64 0, .int .i64 0, .int .i64 0] 78) pb hpb)
            have RA := hid (R2.out.alloc (.cells #[.int .i64 0, .int .i64 0, .int .i64 0, .int .i64 0, .int .i64 0, .int .i64 0, .int .i64 0, .int .i64 0, .int .i64 0] 78))
            have OA := hid ((Only.refl rb wr.heap.size wr).alloc (Nat.le_refl _) (.cells #[.int .i64 0, .int .i64 0, .int .i64 0, .int .i64 0, .int .i64 0, .int .i64 0, .int .i64 0, .int .i64 0, .int .i64 0] 78))
            have zA : (wr.alloc (.cells #[.int .i64 0, .int .i64 0, .int .i64 0, .int .i64 0, .int .i64 0, .int .i64 0, .int .i64 0, .int .i64 0, .int .i64 0] 78)).heap.size = pb + 1 := by simp [hpb]
            have HPB := hid hpb
            clear hpb
            go_wp2_with fail
            rw [← HPB.out]
            clear HPB
            generalize wr.alloc (.cells #[.int .i64 0, .int .i64 0, .int .i64 0, .int .i64 0, .int .i64 0, .int .i64 0, .int .i64 0, .int .i64 0, .int .i64 0] 78) = W3 at *
            refine (rnum_at _ E0.out RA.out).mono ?_
            rintro r w5 ⟨rfl, hrd, hol⟩
            have R5 := hid hrd
            have F5 := hid (show w5.heap[pb]? = some (.cells #[.int .i64 0, .int .i64 0, .int .i64 0, .int .i64 0, .int .i64 0, .int .i64 0, .int .i64 0, .int .i64 0, .int .i64 0] 78) from hol.heap (by omega) FA.out)
            have O5 := hid (OA.out.trans hol (by omega))
            have hz5 : pb < w5.heap.size := (Array.getElem?_eq_some_iff.1 F5.out).1
            clear hrd hol fb
            have c5 : w5.cell? ⟨pb, 0, none⟩ = some (.int .i64 0) := (cell_row (j := 0) F5.out).trans rfl
            have f5 : w5.frozen? ⟨pb, 0, none⟩ = false := by have hh := F5.out; simp [World.frozen?, hh]
            go_wp2_with fail
            refine (rsig_at _ E1.out (R5.out.set (by omega) (by omega) _)).mono ?_
            rintro r w6 ⟨rfl, hrd, hol⟩
            have R6 := hid hrd
            have F6 := hid (show w6.heap[pb]? = some (.cells #[.int .i64 (l + v0), .int .i64 0, .int .i64 0, .int .i64 0, .int .i64 0, .int .i64 0, .int .i64 0, .int .i64 0, .int .i64 0] 78) from hol.heap (by omega) (heap_setCell F5.out _))
            have O6 := hid ((O5.out.set (by omega) _).trans hol (by first | omega | (simp; omega)))
            have hz6 : pb < w6.heap.size := (Array.getElem?_eq_some_iff.1 F6.out).1
            clear hrd hol
            have c6 : w6.cell? ⟨pb, 1, none⟩ = some (.int .i64 0) := (cell_row (j := 1) F6.out).trans rfl
            have f6 : w6.frozen? ⟨pb, 1, none⟩ = false := by have hh := F6.out; simp [World.frozen?, hh]
            go_wp2_with fail
            refine (rsig_at _ E2.out (R6.out.set (by omega) (by omega) _)).mono ?_
            rintro r w7 ⟨rfl, hrd, hol⟩
            have R7 := hid hrd
            have F7 := hid (show w7.heap[pb]? = some (.cells #[.int .i64 (l + v0), .int .i64 v1, .int .i64 0, .int .i64 0, .int .i64 0, .int .i64 0, .int .i64 0, .int .i64 0, .int .i64 0] 78) from hol.heap (by omega) (heap_setCell F6.out _))
            have O7 := hid ((O6.out.set (by omega) _).trans hol (by first | omega | (simp; omega)))
            have hz7 : pb < w7.heap.size := (Array.getElem?_eq_some_iff.1 F7.out).1
            clear hrd hol
            have c7 : w7.cell? ⟨pb, 2, none⟩ = some (.int .i64 0) := (cell_row (j := 2) F7.out).trans rfl
            have f7 : w7.frozen? ⟨pb, 2, none⟩ = false := by have hh := F7.out; simp [World.frozen?, hh]
            go_wp2_with fail
            refine (rsig_at _ E3.out (R7.out.set (by omega) (by omega) _)).mono ?_
            rintro r w8 ⟨rfl, hrd, hol⟩
            have R8 := hid hrd
            have F8 := hid (show w8.heap[pb]? = some (.cells #[.int .i64 (l + v0), .int .i64 v1, .int .i64 v2, .int .i64 0, .int .i64 0, .int .i64 0, .int .i64 0, .int .i64 0, .int .i64 0] 78) from hol.heap (by omega) (heap_setCell F7.out _))
            have O8 := hid ((O7.out.set (by omega) _).trans hol (by first | omega | (simp; omega)))
            have hz8 : pb < w8.heap.size := (Array.getElem?_eq_some_iff.1 F8.out).1
            clear hrd hol
            have c8 : w8.cell? ⟨pb, 3, none⟩ = some (.int .i64 0) := (cell_row (j := 3) F8.out).trans rfl
            have f8 : w8.frozen? ⟨pb, 3, none⟩ = false := by have hh := F8.out; simp [World.frozen?, hh]
            go_wp2_with fail
            refine (rnum_at _ E4.out (R8.out.set (by omega) (by omega) _)).mono ?_
            rintro r w9 ⟨rfl, hrd, hol⟩
            have R9 := hid hrd
            have F9 := hid (show w9.heap[pb]? = some (.cells #[.int .i64 (l + v0), .int .i64 v1, .int .i64 v2, .int .i64 v3, .int .i64 0, .int .i64 0, .int .i64 0, .int .i64 0, .int .i64 0] 78) from hol.heap (by omega) (heap_setCell F8.out _))
            have O9 := hid ((O8.out.set (by omega) _).trans hol (by first | omega | (simp; omega)))
            have hz9 : pb < w9.heap.size := (Array.getElem?_eq_some_iff.1 F9.out).1
            clear hrd hol
            clear c5 f5 c6 f6 c7 f7 c8 f8
            have y3 : w9.cell? ⟨pb, 3, none⟩ = some (.int .i64 v3) := (cell_row (j := 3) F9.out).trans rfl
            have y0 : w9.cell? ⟨pb, 0, none⟩ = some (.int .i64 (l + v0)) := (cell_row (j := 0) F9.out).trans rfl
            have yb2 := R9.out.flag.1
            have yf2 := R9.out.flag.2
            have RZ := hid R9.out.mark
            have FZ := hid (heap_set_other (j := 1) (g := rb) F9.out (by omega) (.bool true))
            have OZ := hid (only_setCell (j := 1) O9.out (.bool true))
            have y3b : (w9.setCell ⟨rb, 1, none⟩ (.bool true)).cell? ⟨pb, 3, none⟩ = some (.int .i64 v3) := (cell_row (j := 3) FZ.out).trans rfl
            have c9 : (w9.setCell ⟨rb, 1, none⟩ (.bool true)).cell? ⟨pb, 4, none⟩ = some (.int .i64 0) := (cell_row (j := 4) FZ.out).trans rfl
            have f9 : (w9.setCell ⟨rb, 1, none⟩ (.bool true)).frozen? ⟨pb, 4, none⟩ = false := by have hh := FZ.out; simp [World.frozen?, hh]
            go_wp2_with fail
            refine (rnum_at _ E5.out (RZ.out.set (by omega) (by omega) _)).mono ?_
            rintro r w10 ⟨rfl, hrd, hol⟩
            have R10 := hid hrd
            have F10 := hid (show w10.heap[pb]? = some (.cells #[.int .i64 (l + v0), .int .i64 v1, .int .i64 v2, .int .i64 v3, .int .i64 (v3 + v4), .int .i64 0, .int .i64 0, .int .i64 0, .int .i64 0] 78) from hol.heap (by omega) (heap_setCell FZ.out _))
            have O10 := hid ((OZ.out.set (by omega) _).trans hol (by first | omega | (simp; omega)))
            have hz10 : pb < w10.heap.size := (Array.getElem?_eq_some_iff.1 F10.out).1
            clear hrd hol
            have c10 : w10.cell? ⟨pb, 5, none⟩ = some (.int .i64 0) := (cell_row (j := 5) F10.out).trans rfl
            have f10 : w10.frozen? ⟨pb, 5, none⟩ = false := by have hh := F10.out; simp [World.frozen?, hh]
            go_wp2_with fail
            refine (rnum_at _ E6.out (R10.out.set (by omega) (by omega) _)).mono ?_
            rintro r w11 ⟨rfl, hrd, hol⟩
            have R11 := hid hrd
            have F11 := hid (show w11.heap[pb]? = some (.cells #[.int .i64 (l + v0), .int .i64 v1, .int .i64 v2, .int .i64 v3, .int .i64 (v3 + v4), .int .i64 v5, .int .i64 0, .int .i64 0, .int .i64 0] 78) from hol.heap (by omega) (heap_setCell F10.out _))
            have O11 := hid ((O10.out.set (by omega) _).trans hol (by first | omega | (simp; omega)))
            have hz11 : pb < w11.heap.size := (Array.getElem?_eq_some_iff.1 F11.out).1
            clear hrd hol
            have c11 : w11.cell? ⟨pb, 6, none⟩ = some (.int .i64 0) := (cell_row (j := 6) F11.out).trans rfl
            have f11 : w11.frozen? ⟨pb, 6, none⟩ = false := by have hh := F11.out; simp [World.frozen?, hh]
            go_wp2_with fail
            refine (rnum_at _ E7.out (R11.out.set (by omega) (by omega) _)).mono ?_
            rintro r w12 ⟨rfl, hrd, hol⟩
            have R12 := hid hrd
            have F12 := hid (show w12.heap[pb]? = some (.cells #[.int .i64 (l + v0), .int .i64 v1, .int .i64 v2, .int .i64 v3, .int .i64 (v3 + v4), .int .i64 v5, .int .i64 v6, .int .i64 0, .int .i64 0] 78) from hol.heap (by omega) (heap_setCell F11.out _))
            have O12 := hid ((O11.out.set (by omega) _).trans hol (by first | omega | (simp; omega)))
            have hz12 : pb < w12.heap.size := (Array.getElem?_eq_some_iff.1 F12.out).1
            clear hrd hol
            have c12 : w12.cell? ⟨pb, 7, none⟩ = some (.int .i64 0) := (cell_row (j := 7) F12.out).trans rfl
            have f12 : w12.frozen? ⟨pb, 7, none⟩ = false := by have hh := F12.out; simp [World.frozen?, hh]
            go_wp2_with fail
            refine (rnum_at _ E8.out (R12.out.set (by omega) (by omega) _)).mono ?_
            rintro r w13 ⟨rfl, hrd, hol⟩
            have R13 := hid hrd
            have F13 := hid (show w13.heap[pb]? = some (.cells #[.int .i64 (l + v0), .int .i64 v1, .int .i64 v2, .int .i64 v3, .int .i64 (v3 + v4), .int .i64 v5, .int .i64 v6, .int .i64 v7, .int .i64 0] 78) from hol.heap (by omega) (heap_setCell F12.out _))
            have O13 := hid ((O12.out.set (by omega) _).trans hol (by first | omega | (simp; omega)))
            have hz13 : pb < w13.heap.size := (Array.getElem?_eq_some_iff.1 F13.out).1
            clear hrd hol
            have c13 : w13.cell? ⟨pb, 8, none⟩ = some (.int .i64 0) := (cell_row (j := 8) F13.out).trans rfl
            have f13 : w13.frozen? ⟨pb, 8, none⟩ = false := by have hh := F13.out; simp [World.frozen?, hh]
            have RX := hid (show RdAt (w13.setCell ⟨pb, 8, none⟩ (.int .i64 v8)) rb 96 b t9 from (R13.out.set (by omega) (by omega) _))
            have FX := hid (show (w13.setCell ⟨pb, 8, none⟩ (.int .i64 v8)).heap[pb]? = some (.cells #[.int .i64 (l + v0), .int .i64 v1, .int .i64 v2, .int .i64 v3, .int .i64 (v3 + v4), .int .i64 v5, .int .i64 v6, .int .i64 v7, .int .i64 v8] 78) from (heap_setCell F13.out _))
            have OX := hid (show Only rb wr.heap.size wr (w13.setCell ⟨pb, 8, none⟩ (.int .i64 v8)) from (O13.out.set (by omega) _))
            have d0 : (w13.setCell ⟨pb, 8, none⟩ (.int .i64 v8)).cell? ⟨pb, 0, none⟩ = some (.int .i64 (l + v0)) := (cell_row (j := 0) FX.out).trans rfl
            have d1 : (w13.setCell ⟨pb, 8, none⟩ (.int .i64 v8)).cell? ⟨pb, 1, none⟩ = some (.int .i64 v1) := (cell_row (j := 1) FX.out).trans rfl
            have d2 : (w13.setCell ⟨pb, 8, none⟩ (.int .i64 v8)).cell? ⟨pb, 2, none⟩ = some (.int .i64 v2) := (cell_row (j := 2) FX.out).trans rfl
            have d3 : (w13.setCell ⟨pb, 8, none⟩ (.int .i64 v8)).cell? ⟨pb, 3, none⟩ = some (.int .i64 v3) := (cell_row (j := 3) FX.out).trans rfl
            have d4 : (w13.setCell ⟨pb, 8, none⟩ (.int .i64 v8)).cell? ⟨pb, 4, none⟩ = some (.int .i64 (v3 + v4)) := (cell_row (j := 4) FX.out).trans rfl
            have d5 : (w13.setCell ⟨pb, 8, none⟩ (.int .i64 v8)).cell? ⟨pb, 5, none⟩ = some (.int .i64 v5) := (cell_row (j := 5) FX.out).trans rfl
            have d6 : (w13.setCell ⟨pb, 8, none⟩ (.int .i64 v8)).cell? ⟨pb, 6, none⟩ = some (.int .i64 v6) := (cell_row (j := 6) FX.out).trans rfl
            have d7 : (w13.setCell ⟨pb, 8, none⟩ (.int .i64 v8)).cell? ⟨pb, 7, none⟩ = some (.int .i64 v7) := (cell_row (j := 7) FX.out).trans rfl
            have d8 : (w13.setCell ⟨pb, 8, none⟩ (.int .i64 v8)).cell? ⟨pb, 8, none⟩ = some (.int .i64 v8) := (cell_row (j := 8) FX.out).trans rfl
            have HRK := hid (RowsAt.one (heap_alloc_at (w13.setCell ⟨pb, 8, none⟩ (.int .i64 v8)) _ _ (by simp)) : RowsAt ((w13.setCell ⟨pb, 8, none⟩ (.int .i64 v8)).alloc (.cells #[.int .i64 (l + v0), .int .i64 v1, .int .i64 v2, .int .i64 v3, .int .i64 (v3 + v4), .int .i64 v5, .int .i64 v6, .int .i64 v7, .int .i64 v8] 78)) w13.heap.size 0 9 [[.int .i64 (l + v0), .int .i64 v1, .int .i64 v2, .int .i64 v3, .int .i64 (v3 + v4), .int .i64 v5, .int .i64 v6, .int .i64 v7, .int .i64 v8]])
            have HOA := hid (OwnR.grow (W' := (w13.setCell ⟨pb, 8, none⟩ (.int .i64 v8)).alloc (.cells #[.int .i64 (l + v0), .int .i64 v1, .int .i64 v2, .int .i64 v3, .int .i64 (v3 + v4), .int .i64 v5, .int .i64 v6, .int .i64 v7, .int .i64 v8] 78)) (HO.out.only OX.out (Nat.le_refl _) hrb) ((Below.refl _ _).alloc (Nat.le_refl _) _) : OwnR _ w.heap.size 78 9 (.slice oa on oc) (A.map Pt.row))
            have RB := hid (RX.out.alloc (.cells #[.int .i64 (l + v0), .int .i64 v1, .int .i64 v2, .int .i64 v3, .int .i64 (v3 + v4), .int .i64 v5, .int .i64 v6, .int .i64 v7, .int .i64 v8] 78))
            have OB := hid ((O2.out.trans OX.out O2.out.size).alloc (by have := O2.out.size; simp; omega) (.cells #[.int .i64 (l + v0), .int .i64 v1, .int .i64 v2, .int .i64 v3, .int .i64 (v3 + v4), .int .i64 v5, .int .i64 v6, .int .i64 v7, .int .i64 v8] 78))
            have HL1 := hid (show (A.map Pt.row).length + 1 ≤ maxLen by rw [List.length_map, HA.out]; unfold maxLen; omega)
            have HL2 := hid (show ((A.map Pt.row).length + 1) * 72 ≤ 140737488355328 by rw [List.length_map, HA.out]; omega)
            have HBS := hid (show w.heap.size ≤ ((w13.setCell ⟨pb, 8, none⟩ (.int .i64 v8)).alloc (.cells #[.int .i64 (l + v0), .int .i64 v1, .int .i64 v2, .int .i64 v3, .int .i64 (v3 + v4), .int .i64 v5, .int .i64 v6, .int .i64 v7, .int .i64 v8] 78)).heap.size by have := O2.out.size; simp; omega)
            go_wp2_with (first
              | (at_builtin
                 go_loud (refine wpList_append_rows rfl (.tmp 89) (.tmp 91) 22 rfl w.heap.size 78 i0 _ 9 72 Try.underlying22 HI.out HZ0.out HZ1.out HZ2.out rfl (by decide) _ (A.map Pt.row) [[.int .i64 (l + v0), .int .i64 v1, .int .i64 v2, .int .i64 v3, .int .i64 (v3 + v4), .int .i64 v5, .int .i64 v6, .int .i64 v7, .int .i64 v8]] rfl HOA.out w13.heap.size 0 1 1 rfl rfl HRK.out (wide9d _ _ _ _ _ _ _ _ _) HL1.out HL2.out HBS.out ?_)
                 intro v10 W6 hown6 hg6 z6
                 clear z6
                 have HO6 := hid (show OwnP W6 w.heap.size v10 (A ++ [⟨(l + v0), v1, v2, v3, (v3 + v4), v5, v6, v7, v8⟩]) by unfold OwnP; rw [List.map_append]; exact hown6)
                 have R6X := hid (RB.out.kept hg6 (fun e => by have := OwnR.ownBlock HOA.out rb e.symm; omega) (fun e => by have := OwnR.ownBlock HOA.out b e.symm; omega))
                 have O6X := hid (OB.out.kept hg6 (by have := O2.out.size; simp; omega) (fun k e => OwnR.ownBlock HOA.out k e))
                 clear hown6 hg6))
            obtain ⟨oa6, oc6, hv6⟩ := HO6.out.slice
            refine ⟨⟨i + 1, A ++ [⟨(l + v0), v1, v2, v3, (v3 + v4), v5, v6, v7, v8⟩], l + v0, t9, oa6, _, oc6, hv6, by omega, by simp [HA.out], by go_num, rfl, hv6 ▸ HO6.out, R6X.out, O6X.out, fun hb => ?_, ?_⟩, by simp [intOf]; omega⟩
            · exact HBB.out hb
            · rw [HE.out, show N - i = (N - (i + 1)) + 1 by omega, ptsR_next HBD.out HPT.out]
              simp
          · skip
            by_cases h2 : 268435456 < v3
            · skip
              have hs5 : t5.mark = (if v3 < -268435456 ∨ 268435456 < v3 ∨ 536870912 < v4 ∨ 1152921504606846976 < l + v0 then t5.mark else t5) := (if_pos (Or.inr (Or.inl h2))).symm
              have hpt := HP0.out _ hs5
              rcases e5 : nextS false t5.mark with ⟨v5, t6⟩
              rcases e6 : nextS false t6 with ⟨v6, t7⟩
              rcases e7 : nextS false t7 with ⟨v7, t8⟩
              rcases e8 : nextS false t8 with ⟨v8, t9⟩
              simp only [e5, e6, e7, e8] at hpt
              have HPT := hid hpt
              have HBB := hid (show t9.bad = false → 0 ≤ l + v0 ∧ l + v0 ≤ 1152921504606846976 from fun hb => by
                have k5 : (t5.mark).bad = true := rfl
                have k6 := nextS_keeps false _ k5; rw [e5] at k6
                have k7 := nextS_keeps false _ k6; rw [e6] at k7
                have k8 := nextS_keeps false _ k7; rw [e7] at k8
                have k9 := nextS_keeps false _ k8; rw [e8] at k9
                exact absurd (hb.symm.trans k9) (by decide))
              have k1 : decide (v3 < (-268435456 : Int)) = false := decide_eq_false h1
              have k2 : decide ((268435456 : Int) < v3) = true := decide_eq_true h2
              have E5 := hid e5
              have E6 := hid e6
              have E7 := hid e7
              have E8 := hid e8
              clear e5 e6 e7 e8 hs5 hpt HP0 h1 h2
              have FA := hid (heap_alloc_at wr (.cells #[.int .i64 0, .int .i64 0, .int .i64 0, .int .i64 0, .int .i64 0, .int .i64 0, .int .i64 0, .int .i64 0, .int .i64 0] 78) pb hpb)
              have RA := hid (R2.out.alloc (.cells #[.int .i64 0, .int .i64 0, .int .i64 0, .int .i64 0, .int .i64 0, .int .i64 0, .int .i64 0, .int .i64 0, .int .i64 0] 78))
              have OA := hid ((Only.refl rb wr.heap.size wr).alloc (Nat.le_refl _) (.cells #[.int .i64 0, .int .i64 0, .int .i64 0, .int .i64 0, .int .i64 0, .int .i64 0, .int .i64 0, .int .i64 0, .int .i64 0] 78))
              have zA : (wr.alloc (.cells #[.int .i64 0, .int .i64 0, .int .i64 0, .int .i64 0, .int .i64 0, .int .i64 0, .int .i64 0, .int .i64 0, .int .i64 0] 78)).heap.size = pb + 1 := by simp [hpb]
              have HPB := hid hpb
              clear hpb
              go_wp2_with fail
              rw [← HPB.out]
              clear HPB
              generalize wr.alloc (.cells #[.int .i64 0, .int .i64 0, .int .i64 0, .int .i64 0, .int .i64 0, .int .i64 0, .int .i64 0, .int .i64 0, .int .i64 0] 78) = W3 at *
              refine (rnum_at _ E0.out RA.out).mono ?_
              rintro r w5 ⟨rfl, hrd, hol⟩
              have R5 := hid hrd
              have F5 := hid (show w5.heap[pb]? = some (.cells #[.int .i64 0, .int .i64 0, .int .i64 0, .int .i64 0, .int .i64 0, .int .i64 0, .int .i64 0, .int .i64 0, .int .i64 0] 78) from hol.heap (by omega) FA.out)
              have O5 := hid (OA.out.trans hol (by omega))
              have hz5 : pb < w5.heap.size := (Array.getElem?_eq_some_iff.1 F5.out).1
              clear hrd hol fb
              have c5 : w5.cell? ⟨pb, 0, none⟩ = some (.int .i64 0) := (cell_row (j := 0) F5.out).trans rfl
              have f5 : w5.frozen? ⟨pb, 0, none⟩ = false := by have hh := F5.out; simp [World.frozen?, hh]
              go_wp2_with fail
              refine (rsig_at _ E1.out (R5.out.set (by omega) (by omega) _)).mono ?_
              rintro r w6 ⟨rfl, hrd, hol⟩
              have R6 := hid hrd
              have F6 := hid (show w6.heap[pb]? = some (.cells #[.int .i64 (l + v0), .int .i64 0, .int .i64 0, .int .i64 0, .int .i64 0, .int .i64 0, .int .i64 0, .int .i64 0, .int .i64 0] 78) from hol.heap (by omega) (heap_setCell F5.out _))
              have O6 := hid ((O5.out.set (by omega) _).trans hol (by first | omega | (simp; omega)))
              have hz6 : pb < w6.heap.size := (Array.getElem?_eq_some_iff.1 F6.out).1
              clear hrd hol
              have c6 : w6.cell? ⟨pb, 1, none⟩ = some (.int .i64 0) := (cell_row (j := 1) F6.out).trans rfl
              have f6 : w6.frozen? ⟨pb, 1, none⟩ = false := by have hh := F6.out; simp [World.frozen?, hh]
              go_wp2_with fail
              refine (rsig_at _ E2.out (R6.out.set (by omega) (by omega) _)).mono ?_
              rintro r w7 ⟨rfl, hrd, hol⟩
              have R7 := hid hrd
              have F7 := hid (show w7.heap[pb]? = some (.cells #[.int .i64 (l + v0), .int .i64 v1, .int .i64 0, .int .i64 0, .int .i64 0, .int .i64 0, .int .i64 0, .int .i64 0, .int .i64 0] 78) from hol.heap (by omega) (heap_setCell F6.out _))
              have O7 := hid ((O6.out.set (by omega) _).trans hol (by first | omega | (simp; omega)))
              have hz7 : pb < w7.heap.size := (Array.getElem?_eq_some_iff.1 F7.out).1
              clear hrd hol
              have c7 : w7.cell? ⟨pb, 2, none⟩ = some (.int .i64 0) := (cell_row (j := 2) F7.out).trans rfl
              have f7 : w7.frozen? ⟨pb, 2, none⟩ = false := by have hh := F7.out; simp [World.frozen?, hh]
              go_wp2_with fail
              refine (rsig_at _ E3.out (R7.out.set (by omega) (by omega) _)).mono ?_
              rintro r w8 ⟨rfl, hrd, hol⟩
              have R8 := hid hrd
              have F8 := hid (show w8.heap[pb]? = some (.cells #[.int .i64 (l + v0), .int .i64 v1, .int .i64 v2, .int .i64 0, .int .i64 0, .int .i64 0, .int .i64 0, .int .i64 0, .int .i64 0] 78) from hol.heap (by omega) (heap_setCell F7.out _))
              have O8 := hid ((O7.out.set (by omega) _).trans hol (by first | omega | (simp; omega)))
              have hz8 : pb < w8.heap.size := (Array.getElem?_eq_some_iff.1 F8.out).1
              clear hrd hol
              have c8 : w8.cell? ⟨pb, 3, none⟩ = some (.int .i64 0) := (cell_row (j := 3) F8.out).trans rfl
              have f8 : w8.frozen? ⟨pb, 3, none⟩ = false := by have hh := F8.out; simp [World.frozen?, hh]
              go_wp2_with fail
              refine (rnum_at _ E4.out (R8.out.set (by omega) (by omega) _)).mono ?_
              rintro r w9 ⟨rfl, hrd, hol⟩
              have R9 := hid hrd
              have F9 := hid (show w9.heap[pb]? = some (.cells #[.int .i64 (l + v0), .int .i64 v1, .int .i64 v2, .int .i64 v3, .int .i64 0, .int .i64 0, .int .i64 0, .int .i64 0, .int .i64 0] 78) from hol.heap (by omega) (heap_setCell F8.out _))
              have O9 := hid ((O8.out.set (by omega) _).trans hol (by first | omega | (simp; omega)))
              have hz9 : pb < w9.heap.size := (Array.getElem?_eq_some_iff.1 F9.out).1
              clear hrd hol
              clear c5 f5 c6 f6 c7 f7 c8 f8
              have y3 : w9.cell? ⟨pb, 3, none⟩ = some (.int .i64 v3) := (cell_row (j := 3) F9.out).trans rfl
              have y0 : w9.cell? ⟨pb, 0, none⟩ = some (.int .i64 (l + v0)) := (cell_row (j := 0) F9.out).trans rfl
              have yb2 := R9.out.flag.1
              have yf2 := R9.out.flag.2
              have RZ := hid R9.out.mark
              have FZ := hid (heap_set_other (j := 1) (g := rb) F9.out (by omega) (.bool true))
              have OZ := hid (only_setCell (j := 1) O9.out (.bool true))
              have y3b : (w9.setCell ⟨rb, 1, none⟩ (.bool true)).cell? ⟨pb, 3, none⟩ = some (.int .i64 v3) := (cell_row (j := 3) FZ.out).trans rfl
              have c9 : (w9.setCell ⟨rb, 1, none⟩ (.bool true)).cell? ⟨pb, 4, none⟩ = some (.int .i64 0) := (cell_row (j := 4) FZ.out).trans rfl
              have f9 : (w9.setCell ⟨rb, 1, none⟩ (.bool true)).frozen? ⟨pb, 4, none⟩ = false := by have hh := FZ.out; simp [World.frozen?, hh]
              go_wp2_with fail
              refine (rnum_at _ E5.out (RZ.out.set (by omega) (by omega) _)).mono ?_
              rintro r w10 ⟨rfl, hrd, hol⟩
              have R10 := hid hrd
              have F10 := hid (show w10.heap[pb]? = some (.cells #[.int .i64 (l + v0), .int .i64 v1, .int .i64 v2, .int .i64 v3, .int .i64 (v3 + v4), .int .i64 0, .int .i64 0, .int .i64 0, .int .i64 0] 78) from hol.heap (by omega) (heap_setCell FZ.out _))
              have O10 := hid ((OZ.out.set (by omega) _).trans hol (by first | omega | (simp; omega)))
              have hz10 : pb < w10.heap.size := (Array.getElem?_eq_some_iff.1 F10.out).1
              clear hrd hol
              have c10 : w10.cell? ⟨pb, 5, none⟩ = some (.int .i64 0) := (cell_row (j := 5) F10.out).trans rfl
              have f10 : w10.frozen? ⟨pb, 5, none⟩ = false := by have hh := F10.out; simp [World.frozen?, hh]
              go_wp2_with fail
              refine (rnum_at _ E6.out (R10.out.set (by omega) (by omega) _)).mono ?_
              rintro r w11 ⟨rfl, hrd, hol⟩
              have R11 := hid hrd
              have F11 := hid (show w11.heap[pb]? = some (.cells #[.int .i64 (l + v0), .int .i64 v1, .int .i64 v2, .int .i64 v3, .int .i64 (v3 + v4), .int .i64 v5, .int .i64 0, .int .i64 0, .int .i64 0] 78) from hol.heap (by omega) (heap_setCell F10.out _))
              have O11 := hid ((O10.out.set (by omega) _).trans hol (by first | omega | (simp; omega)))
              have hz11 : pb < w11.heap.size := (Array.getElem?_eq_some_iff.1 F11.out).1
              clear hrd hol
              have c11 : w11.cell? ⟨pb, 6, none⟩ = some (.int .i64 0) := (cell_row (j := 6) F11.out).trans rfl
              have f11 : w11.frozen? ⟨pb, 6, none⟩ = false := by have hh := F11.out; simp [World.frozen?, hh]
              go_wp2_with fail
              refine (rnum_at _ E7.out (R11.out.set (by omega) (by omega) _)).mono ?_
              rintro r w12 ⟨rfl, hrd, hol⟩
              have R12 := hid hrd
              have F12 := hid (show w12.heap[pb]? = some (.cells #[.int .i64 (l + v0), .int .i64 v1, .int .i64 v2, .int .i64 v3, .int .i64 (v3 + v4), .int .i64 v5, .int .i64 v6, .int .i64 0, .int .i64 0] 78) from hol.heap (by omega) (heap_setCell F11.out _))
              have O12 := hid ((O11.out.set (by omega) _).trans hol (by first | omega | (simp; omega)))
              have hz12 : pb < w12.heap.size := (Array.getElem?_eq_some_iff.1 F12.out).1
              clear hrd hol
              have c12 : w12.cell? ⟨pb, 7, none⟩ = some (.int .i64 0) := (cell_row (j := 7) F12.out).trans rfl
              have f12 : w12.frozen? ⟨pb, 7, none⟩ = false := by have hh := F12.out; simp [World.frozen?, hh]
              go_wp2_with fail
              refine (rnum_at _ E8.out (R12.out.set (by omega) (by omega) _)).mono ?_
              rintro r w13 ⟨rfl, hrd, hol⟩
              have R13 := hid hrd
              have F13 := hid (show w13.heap[pb]? = some (.cells #[.int .i64 (l + v0), .int .i64 v1, .int .i64 v2, .int .i64 v3, .int .i64 (v3 + v4), .int .i64 v5, .int .i64 v6, .int .i64 v7, .int .i64 0] 78) from hol.heap (by omega) (heap_setCell F12.out _))
              have O13 := hid ((O12.out.set (by omega) _).trans hol (by first | omega | (simp; omega)))
              have hz13 : pb < w13.heap.size := (Array.getElem?_eq_some_iff.1 F13.out).1
              clear hrd hol
              have c13 : w13.cell? ⟨pb, 8, none⟩ = some (.int .i64 0) := (cell_row (j := 8) F13.out).trans rfl
              have f13 : w13.frozen? ⟨pb, 8, none⟩ = false := by have hh := F13.out; simp [World.frozen?, hh]
              have RX := hid (show RdAt (w13.setCell ⟨pb, 8, none⟩ (.int .i64 v8)) rb 96 b t9 from (R13.out.set (by omega) (by omega) _))
              have FX := hid (show (w13.setCell ⟨pb, 8, none⟩ (.int .i64 v8)).heap[pb]? = some (.cells #[.int .i64 (l + v0), .int .i64 v1, .int .i64 v2, .int .i64 v3, .int .i64 (v3 + v4), .int .i64 v5, .int .i64 v6, .int .i64 v7, .int .i64 v8] 78) from (heap_setCell F13.out _))
              have OX := hid (show Only rb wr.heap.size wr (w13.setCell ⟨pb, 8, none⟩ (.int .i64 v8)) from (O13.out.set (by omega) _))
              have d0 : (w13.setCell ⟨pb, 8, none⟩ (.int .i64 v8)).cell? ⟨pb, 0, none⟩ = some (.int .i64 (l + v0)) := (cell_row (j := 0) FX.out).trans rfl
              have d1 : (w13.setCell ⟨pb, 8, none⟩ (.int .i64 v8)).cell? ⟨pb, 1, none⟩ = some (.int .i64 v1) := (cell_row (j := 1) FX.out).trans rfl
              have d2 : (w13.setCell ⟨pb, 8, none⟩ (.int .i64 v8)).cell? ⟨pb, 2, none⟩ = some (.int .i64 v2) := (cell_row (j := 2) FX.out).trans rfl
              have d3 : (w13.setCell ⟨pb, 8, none⟩ (.int .i64 v8)).cell? ⟨pb, 3, none⟩ = some (.int .i64 v3) := (cell_row (j := 3) FX.out).trans rfl
              have d4 : (w13.setCell ⟨pb, 8, none⟩ (.int .i64 v8)).cell? ⟨pb, 4, none⟩ = some (.int .i64 (v3 + v4)) := (cell_row (j := 4) FX.out).trans rfl
              have d5 : (w13.setCell ⟨pb, 8, none⟩ (.int .i64 v8)).cell? ⟨pb, 5, none⟩ = some (.int .i64 v5) := (cell_row (j := 5) FX.out).trans rfl
              have d6 : (w13.setCell ⟨pb, 8, none⟩ (.int .i64 v8)).cell? ⟨pb, 6, none⟩ = some (.int .i64 v6) := (cell_row (j := 6) FX.out).trans rfl
              have d7 : (w13.setCell ⟨pb, 8, none⟩ (.int .i64 v8)).cell? ⟨pb, 7, none⟩ = some (.int .i64 v7) := (cell_row (j := 7) FX.out).trans rfl
              have d8 : (w13.setCell ⟨pb, 8, none⟩ (.int .i64 v8)).cell? ⟨pb, 8, none⟩ = some (.int .i64 v8) := (cell_row (j := 8) FX.out).trans rfl
              have HRK := hid (RowsAt.one (heap_alloc_at (w13.setCell ⟨pb, 8, none⟩ (.int .i64 v8)) _ _ (by simp)) : RowsAt ((w13.setCell ⟨pb, 8, none⟩ (.int .i64 v8)).alloc (.cells #[.int .i64 (l + v0), .int .i64 v1, .int .i64 v2, .int .i64 v3, .int .i64 (v3 + v4), .int .i64 v5, .int .i64 v6, .int .i64 v7, .int .i64 v8] 78)) w13.heap.size 0 9 [[.int .i64 (l + v0), .int .i64 v1, .int .i64 v2, .int .i64 v3, .int .i64 (v3 + v4), .int .i64 v5, .int .i64 v6, .int .i64 v7, .int .i64 v8]])
              have HOA := hid (OwnR.grow (W' := (w13.setCell ⟨pb, 8, none⟩ (.int .i64 v8)).alloc (.cells #[.int .i64 (l + v0), .int .i64 v1, .int .i64 v2, .int .i64 v3, .int .i64 (v3 + v4), .int .i64 v5, .int .i64 v6, .int .i64 v7, .int .i64 v8] 78)) (HO.out.only OX.out (Nat.le_refl _) hrb) ((Below.refl _ _).alloc (Nat.le_refl _) _) : OwnR _ w.heap.size 78 9 (.slice oa on oc) (A.map Pt.row))
              have RB := hid (RX.out.alloc (.cells #[.int .i64 (l + v0), .int .i64 v1, .int .i64 v2, .int .i64 v3, .int .i64 (v3 + v4), .int .i64 v5, .int .i64 v6, .int .i64 v7, .int .i64 v8] 78))
              have OB := hid ((O2.out.trans OX.out O2.out.size).alloc (by have := O2.out.size; simp; omega) (.cells #[.int .i64 (l + v0), .int .i64 v1, .int .i64 v2, .int .i64 v3, .int .i64 (v3 + v4), .int .i64 v5, .int .i64 v6, .int .i64 v7, .int .i64 v8] 78))
              have HL1 := hid (show (A.map Pt.row).length + 1 ≤ maxLen by rw [List.length_map, HA.out]; unfold maxLen; omega)
              have HL2 := hid (show ((A.map Pt.row).length + 1) * 72 ≤ 140737488355328 by rw [List.length_map, HA.out]; omega)
              have HBS := hid (show w.heap.size ≤ ((w13.setCell ⟨pb, 8, none⟩ (.int .i64 v8)).alloc (.cells #[.int .i64 (l + v0), .int .i64 v1, .int .i64 v2, .int .i64 v3, .int .i64 (v3 + v4), .int .i64 v5, .int .i64 v6, .int .i64 v7, .int .i64 v8] 78)).heap.size by have := O2.out.size; simp; omega)
              go_wp2_with (first
                | (at_builtin
                   go_loud (refine wpList_append_rows rfl (.tmp 89) (.tmp 91) 22 rfl w.heap.size 78 i0 _ 9 72 Try.underlying22 HI.out HZ0.out HZ1.out HZ2.out rfl (by decide) _ (A.map Pt.row) [[.int .i64 (l + v0), .int .i64 v1, .int .i64 v2, .int .i64 v3, .int .i64 (v3 + v4), .int .i64 v5, .int .i64 v6, .int .i64 v7, .int .i64 v8]] rfl HOA.out w13.heap.size 0 1 1 rfl rfl HRK.out (wide9d _ _ _ _ _ _ _ _ _) HL1.out HL2.out HBS.out ?_)
                   intro v10 W6 hown6 hg6 z6
                   clear z6
                   have HO6 := hid (show OwnP W6 w.heap.size v10 (A ++ [⟨(l + v0), v1, v2, v3, (v3 + v4), v5, v6, v7, v8⟩]) by unfold OwnP; rw [List.map_append]; exact hown6)
                   have R6X := hid (RB.out.kept hg6 (fun e => by have := OwnR.ownBlock HOA.out rb e.symm; omega) (fun e => by have := OwnR.ownBlock HOA.out b e.symm; omega))
                   have O6X := hid (OB.out.kept hg6 (by have := O2.out.size; simp; omega) (fun k e => OwnR.ownBlock HOA.out k e))
                   clear hown6 hg6))
              obtain ⟨oa6, oc6, hv6⟩ := HO6.out.slice
              refine ⟨⟨i + 1, A ++ [⟨(l + v0), v1, v2, v3, (v3 + v4), v5, v6, v7, v8⟩], l + v0, t9, oa6, _, oc6, hv6, by omega, by simp [HA.out], by go_num, rfl, hv6 ▸ HO6.out, R6X.out, O6X.out, fun hb => ?_, ?_⟩, by simp [intOf]; omega⟩
              · exact HBB.out hb
              · rw [HE.out, show N - i = (N - (i + 1)) + 1 by omega, ptsR_next HBD.out HPT.out]
                simp
            · skip
              by_cases h3 : 536870912 < v4
              · skip
                have hs5 : t5.mark = (if v3 < -268435456 ∨ 268435456 < v3 ∨ 536870912 < v4 ∨ 1152921504606846976 < l + v0 then t5.mark else t5) := (if_pos (Or.inr (Or.inr (Or.inl h3)))).symm
                have hpt := HP0.out _ hs5
                rcases e5 : nextS false t5.mark with ⟨v5, t6⟩
                rcases e6 : nextS false t6 with ⟨v6, t7⟩
                rcases e7 : nextS false t7 with ⟨v7, t8⟩
                rcases e8 : nextS false t8 with ⟨v8, t9⟩
                simp only [e5, e6, e7, e8] at hpt
                have HPT := hid hpt
                have HBB := hid (show t9.bad = false → 0 ≤ l + v0 ∧ l + v0 ≤ 1152921504606846976 from fun hb => by
                  have k5 : (t5.mark).bad = true := rfl
                  have k6 := nextS_keeps false _ k5; rw [e5] at k6
                  have k7 := nextS_keeps false _ k6; rw [e6] at k7
                  have k8 := nextS_keeps false _ k7; rw [e7] at k8
                  have k9 := nextS_keeps false _ k8; rw [e8] at k9
                  exact absurd (hb.symm.trans k9) (by decide))
                have k1 : decide (v3 < (-268435456 : Int)) = false := decide_eq_false h1
                have k2 : decide ((268435456 : Int) < v3) = false := decide_eq_false h2
                have k3 : decide ((536870912 : Int) < v4) = true := decide_eq_true h3
                have E5 := hid e5
                have E6 := hid e6
                have E7 := hid e7
                have E8 := hid e8
                clear e5 e6 e7 e8 hs5 hpt HP0 h1 h2 h3
                have FA := hid (heap_alloc_at wr (.cells #[.int .i64 0, .int .i64 0, .int .i64 0, .int .i64 0, .int .i64 0, .int .i64 0, .int .i64 0, .int .i64 0, .int .i64 0] 78) pb hpb)
                have RA := hid (R2.out.alloc (.cells #[.int .i64 0, .int .i64 0, .int .i64 0, .int .i64 0, .int .i64 0, .int .i64 0, .int .i64 0, .int .i64 0, .int .i64 0] 78))
                have OA := hid ((Only.refl rb wr.heap.size wr).alloc (Nat.le_refl _) (.cells #[.int .i64 0, .int .i64 0, .int .i64 0, .int .i64 0, .int .i64 0, .int .i64 0, .int .i64 0, .int .i64 0, .int .i64 0] 78))
                have zA : (wr.alloc (.cells #[.int .i64 0, .int .i64 0, .int .i64 0, .int .i64 0, .int .i64 0, .int .i64 0, .int .i64 0, .int .i64 0, .int .i64 0] 78)).heap.size = pb + 1 := by simp [hpb]
                have HPB := hid hpb
                clear hpb
                go_wp2_with fail
                rw [← HPB.out]
                clear HPB
                generalize wr.alloc (.cells #[.int .i64 0, .int .i64 0, .int .i64 0, .int .i64 0, .int .i64 0, .int .i64 0, .int .i64 0, .int .i64 0, .int .i64 0] 78) = W3 at *
                refine (rnum_at _ E0.out RA.out).mono ?_
                rintro r w5 ⟨rfl, hrd, hol⟩
                have R5 := hid hrd
                have F5 := hid (show w5.heap[pb]? = some (.cells #[.int .i64 0, .int .i64 0, .int .i64 0, .int .i64 0, .int .i64 0, .int .i64 0, .int .i64 0, .int .i64 0, .int .i64 0] 78) from hol.heap (by omega) FA.out)
                have O5 := hid (OA.out.trans hol (by omega))
                have hz5 : pb < w5.heap.size := (Array.getElem?_eq_some_iff.1 F5.out).1
                clear hrd hol fb
                have c5 : w5.cell? ⟨pb, 0, none⟩ = some (.int .i64 0) := (cell_row (j := 0) F5.out).trans rfl
                have f5 : w5.frozen? ⟨pb, 0, none⟩ = false := by have hh := F5.out; simp [World.frozen?, hh]
                go_wp2_with fail
                refine (rsig_at _ E1.out (R5.out.set (by omega) (by omega) _)).mono ?_
                rintro r w6 ⟨rfl, hrd, hol⟩
                have R6 := hid hrd
                have F6 := hid (show w6.heap[pb]? = some (.cells #[.int .i64 (l + v0), .int .i64 0, .int .i64 0, .int .i64 0, .int .i64 0, .int .i64 0, .int .i64 0, .int .i64 0, .int .i64 0] 78) from hol.heap (by omega) (heap_setCell F5.out _))
                have O6 := hid ((O5.out.set (by omega) _).trans hol (by first | omega | (simp; omega)))
                have hz6 : pb < w6.heap.size := (Array.getElem?_eq_some_iff.1 F6.out).1
                clear hrd hol
                have c6 : w6.cell? ⟨pb, 1, none⟩ = some (.int .i64 0) := (cell_row (j := 1) F6.out).trans rfl
                have f6 : w6.frozen? ⟨pb, 1, none⟩ = false := by have hh := F6.out; simp [World.frozen?, hh]
                go_wp2_with fail
                refine (rsig_at _ E2.out (R6.out.set (by omega) (by omega) _)).mono ?_
                rintro r w7 ⟨rfl, hrd, hol⟩
                have R7 := hid hrd
                have F7 := hid (show w7.heap[pb]? = some (.cells #[.int .i64 (l + v0), .int .i64 v1, .int .i64 0, .int .i64 0, .int .i64 0, .int .i64 0, .int .i64 0, .int .i64 0, .int .i64 0] 78) from hol.heap (by omega) (heap_setCell F6.out _))
                have O7 := hid ((O6.out.set (by omega) _).trans hol (by first | omega | (simp; omega)))
                have hz7 : pb < w7.heap.size := (Array.getElem?_eq_some_iff.1 F7.out).1
                clear hrd hol
                have c7 : w7.cell? ⟨pb, 2, none⟩ = some (.int .i64 0) := (cell_row (j := 2) F7.out).trans rfl
                have f7 : w7.frozen? ⟨pb, 2, none⟩ = false := by have hh := F7.out; simp [World.frozen?, hh]
                go_wp2_with fail
                refine (rsig_at _ E3.out (R7.out.set (by omega) (by omega) _)).mono ?_
                rintro r w8 ⟨rfl, hrd, hol⟩
                have R8 := hid hrd
                have F8 := hid (show w8.heap[pb]? = some (.cells #[.int .i64 (l + v0), .int .i64 v1, .int .i64 v2, .int .i64 0, .int .i64 0, .int .i64 0, .int .i64 0, .int .i64 0, .int .i64 0] 78) from hol.heap (by omega) (heap_setCell F7.out _))
                have O8 := hid ((O7.out.set (by omega) _).trans hol (by first | omega | (simp; omega)))
                have hz8 : pb < w8.heap.size := (Array.getElem?_eq_some_iff.1 F8.out).1
                clear hrd hol
                have c8 : w8.cell? ⟨pb, 3, none⟩ = some (.int .i64 0) := (cell_row (j := 3) F8.out).trans rfl
                have f8 : w8.frozen? ⟨pb, 3, none⟩ = false := by have hh := F8.out; simp [World.frozen?, hh]
                go_wp2_with fail
                refine (rnum_at _ E4.out (R8.out.set (by omega) (by omega) _)).mono ?_
                rintro r w9 ⟨rfl, hrd, hol⟩
                have R9 := hid hrd
                have F9 := hid (show w9.heap[pb]? = some (.cells #[.int .i64 (l + v0), .int .i64 v1, .int .i64 v2, .int .i64 v3, .int .i64 0, .int .i64 0, .int .i64 0, .int .i64 0, .int .i64 0] 78) from hol.heap (by omega) (heap_setCell F8.out _))
                have O9 := hid ((O8.out.set (by omega) _).trans hol (by first | omega | (simp; omega)))
                have hz9 : pb < w9.heap.size := (Array.getElem?_eq_some_iff.1 F9.out).1
                clear hrd hol
                clear c5 f5 c6 f6 c7 f7 c8 f8
                have y3 : w9.cell? ⟨pb, 3, none⟩ = some (.int .i64 v3) := (cell_row (j := 3) F9.out).trans rfl
                have y0 : w9.cell? ⟨pb, 0, none⟩ = some (.int .i64 (l + v0)) := (cell_row (j := 0) F9.out).trans rfl
                have yb2 := R9.out.flag.1
                have yf2 := R9.out.flag.2
                have RZ := hid R9.out.mark
                have FZ := hid (heap_set_other (j := 1) (g := rb) F9.out (by omega) (.bool true))
                have OZ := hid (only_setCell (j := 1) O9.out (.bool true))
                have y3b : (w9.setCell ⟨rb, 1, none⟩ (.bool true)).cell? ⟨pb, 3, none⟩ = some (.int .i64 v3) := (cell_row (j := 3) FZ.out).trans rfl
                have c9 : (w9.setCell ⟨rb, 1, none⟩ (.bool true)).cell? ⟨pb, 4, none⟩ = some (.int .i64 0) := (cell_row (j := 4) FZ.out).trans rfl
                have f9 : (w9.setCell ⟨rb, 1, none⟩ (.bool true)).frozen? ⟨pb, 4, none⟩ = false := by have hh := FZ.out; simp [World.frozen?, hh]
                go_wp2_with fail
                refine (rnum_at _ E5.out (RZ.out.set (by omega) (by omega) _)).mono ?_
                rintro r w10 ⟨rfl, hrd, hol⟩
                have R10 := hid hrd
                have F10 := hid (show w10.heap[pb]? = some (.cells #[.int .i64 (l + v0), .int .i64 v1, .int .i64 v2, .int .i64 v3, .int .i64 (v3 + v4), .int .i64 0, .int .i64 0, .int .i64 0, .int .i64 0] 78) from hol.heap (by omega) (heap_setCell FZ.out _))
                have O10 := hid ((OZ.out.set (by omega) _).trans hol (by first | omega | (simp; omega)))
                have hz10 : pb < w10.heap.size := (Array.getElem?_eq_some_iff.1 F10.out).1
                clear hrd hol
                have c10 : w10.cell? ⟨pb, 5, none⟩ = some (.int .i64 0) := (cell_row (j := 5) F10.out).trans rfl
                have f10 : w10.frozen? ⟨pb, 5, none⟩ = false := by have hh := F10.out; simp [World.frozen?, hh]
                go_wp2_with fail
                refine (rnum_at _ E6.out (R10.out.set (by omega) (by omega) _)).mono ?_
                rintro r w11 ⟨rfl, hrd, hol⟩
                have R11 := hid hrd
                have F11 := hid (show w11.heap[pb]? = some (.cells #[.int .i64 (l + v0), .int .i64 v1, .int .i64 v2, .int .i64 v3, .int .i64 (v3 + v4), .int .i64 v5, .int .i64 0, .int .i64 0, .int .i64 0] 78) from hol.heap (by omega) (heap_setCell F10.out _))
                have O11 := hid ((O10.out.set (by omega) _).trans hol (by first | omega | (simp; omega)))
                have hz11 : pb < w11.heap.size := (Array.getElem?_eq_some_iff.1 F11.out).1
                clear hrd hol
                have c11 : w11.cell? ⟨pb, 6, none⟩ = some (.int .i64 0) := (cell_row (j := 6) F11.out).trans rfl
                have f11 : w11.frozen? ⟨pb, 6, none⟩ = false := by have hh := F11.out; simp [World.frozen?, hh]
                go_wp2_with fail
                refine (rnum_at _ E7.out (R11.out.set (by omega) (by omega) _)).mono ?_
                rintro r w12 ⟨rfl, hrd, hol⟩
                have R12 := hid hrd
                have F12 := hid (show w12.heap[pb]? = some (.cells #[.int .i64 (l + v0), .int .i64 v1, .int .i64 v2, .int .i64 v3, .int .i64 (v3 + v4), .int .i64 v5, .int .i64 v6, .int .i64 0, .int .i64 0] 78) from hol.heap (by omega) (heap_setCell F11.out _))
                have O12 := hid ((O11.out.set (by omega) _).trans hol (by first | omega | (simp; omega)))
                have hz12 : pb < w12.heap.size := (Array.getElem?_eq_some_iff.1 F12.out).1
                clear hrd hol
                have c12 : w12.cell? ⟨pb, 7, none⟩ = some (.int .i64 0) := (cell_row (j := 7) F12.out).trans rfl
                have f12 : w12.frozen? ⟨pb, 7, none⟩ = false := by have hh := F12.out; simp [World.frozen?, hh]
                go_wp2_with fail
                refine (rnum_at _ E8.out (R12.out.set (by omega) (by omega) _)).mono ?_
                rintro r w13 ⟨rfl, hrd, hol⟩
                have R13 := hid hrd
                have F13 := hid (show w13.heap[pb]? = some (.cells #[.int .i64 (l + v0), .int .i64 v1, .int .i64 v2, .int .i64 v3, .int .i64 (v3 + v4), .int .i64 v5, .int .i64 v6, .int .i64 v7, .int .i64 0] 78) from hol.heap (by omega) (heap_setCell F12.out _))
                have O13 := hid ((O12.out.set (by omega) _).trans hol (by first | omega | (simp; omega)))
                have hz13 : pb < w13.heap.size := (Array.getElem?_eq_some_iff.1 F13.out).1
                clear hrd hol
                have c13 : w13.cell? ⟨pb, 8, none⟩ = some (.int .i64 0) := (cell_row (j := 8) F13.out).trans rfl
                have f13 : w13.frozen? ⟨pb, 8, none⟩ = false := by have hh := F13.out; simp [World.frozen?, hh]
                have RX := hid (show RdAt (w13.setCell ⟨pb, 8, none⟩ (.int .i64 v8)) rb 96 b t9 from (R13.out.set (by omega) (by omega) _))
                have FX := hid (show (w13.setCell ⟨pb, 8, none⟩ (.int .i64 v8)).heap[pb]? = some (.cells #[.int .i64 (l + v0), .int .i64 v1, .int .i64 v2, .int .i64 v3, .int .i64 (v3 + v4), .int .i64 v5, .int .i64 v6, .int .i64 v7, .int .i64 v8] 78) from (heap_setCell F13.out _))
                have OX := hid (show Only rb wr.heap.size wr (w13.setCell ⟨pb, 8, none⟩ (.int .i64 v8)) from (O13.out.set (by omega) _))
                have d0 : (w13.setCell ⟨pb, 8, none⟩ (.int .i64 v8)).cell? ⟨pb, 0, none⟩ = some (.int .i64 (l + v0)) := (cell_row (j := 0) FX.out).trans rfl
                have d1 : (w13.setCell ⟨pb, 8, none⟩ (.int .i64 v8)).cell? ⟨pb, 1, none⟩ = some (.int .i64 v1) := (cell_row (j := 1) FX.out).trans rfl
                have d2 : (w13.setCell ⟨pb, 8, none⟩ (.int .i64 v8)).cell? ⟨pb, 2, none⟩ = some (.int .i64 v2) := (cell_row (j := 2) FX.out).trans rfl
                have d3 : (w13.setCell ⟨pb, 8, none⟩ (.int .i64 v8)).cell? ⟨pb, 3, none⟩ = some (.int .i64 v3) := (cell_row (j := 3) FX.out).trans rfl
                have d4 : (w13.setCell ⟨pb, 8, none⟩ (.int .i64 v8)).cell? ⟨pb, 4, none⟩ = some (.int .i64 (v3 + v4)) := (cell_row (j := 4) FX.out).trans rfl
                have d5 : (w13.setCell ⟨pb, 8, none⟩ (.int .i64 v8)).cell? ⟨pb, 5, none⟩ = some (.int .i64 v5) := (cell_row (j := 5) FX.out).trans rfl
                have d6 : (w13.setCell ⟨pb, 8, none⟩ (.int .i64 v8)).cell? ⟨pb, 6, none⟩ = some (.int .i64 v6) := (cell_row (j := 6) FX.out).trans rfl
                have d7 : (w13.setCell ⟨pb, 8, none⟩ (.int .i64 v8)).cell? ⟨pb, 7, none⟩ = some (.int .i64 v7) := (cell_row (j := 7) FX.out).trans rfl
                have d8 : (w13.setCell ⟨pb, 8, none⟩ (.int .i64 v8)).cell? ⟨pb, 8, none⟩ = some (.int .i64 v8) := (cell_row (j := 8) FX.out).trans rfl
                have HRK := hid (RowsAt.one (heap_alloc_at (w13.setCell ⟨pb, 8, none⟩ (.int .i64 v8)) _ _ (by simp)) : RowsAt ((w13.setCell ⟨pb, 8, none⟩ (.int .i64 v8)).alloc (.cells #[.int .i64 (l + v0), .int .i64 v1, .int .i64 v2, .int .i64 v3, .int .i64 (v3 + v4), .int .i64 v5, .int .i64 v6, .int .i64 v7, .int .i64 v8] 78)) w13.heap.size 0 9 [[.int .i64 (l + v0), .int .i64 v1, .int .i64 v2, .int .i64 v3, .int .i64 (v3 + v4), .int .i64 v5, .int .i64 v6, .int .i64 v7, .int .i64 v8]])
                have HOA := hid (OwnR.grow (W' := (w13.setCell ⟨pb, 8, none⟩ (.int .i64 v8)).alloc (.cells #[.int .i64 (l + v0), .int .i64 v1, .int .i64 v2, .int .i64 v3, .int .i64 (v3 + v4), .int .i64 v5, .int .i64 v6, .int .i64 v7, .int .i64 v8] 78)) (HO.out.only OX.out (Nat.le_refl _) hrb) ((Below.refl _ _).alloc (Nat.le_refl _) _) : OwnR _ w.heap.size 78 9 (.slice oa on oc) (A.map Pt.row))
                have RB := hid (RX.out.alloc (.cells #[.int .i64 (l + v0), .int .i64 v1, .int .i64 v2, .int .i64 v3, .int .i64 (v3 + v4), .int .i64 v5, .int .i64 v6, .int .i64 v7, .int .i64 v8] 78))
                have OB := hid ((O2.out.trans OX.out O2.out.size).alloc (by have := O2.out.size; simp; omega) (.cells #[.int .i64 (l + v0), .int .i64 v1, .int .i64 v2, .int .i64 v3, .int .i64 (v3 + v4), .int .i64 v5, .int .i64 v6, .int .i64 v7, .int .i64 v8] 78))
                have HL1 := hid (show (A.map Pt.row).length + 1 ≤ maxLen by rw [List.length_map, HA.out]; unfold maxLen; omega)
                have HL2 := hid (show ((A.map Pt.row).length + 1) * 72 ≤ 140737488355328 by rw [List.length_map, HA.out]; omega)
                have HBS := hid (show w.heap.size ≤ ((w13.setCell ⟨pb, 8, none⟩ (.int .i64 v8)).alloc (.cells #[.int .i64 (l + v0), .int .i64 v1, .int .i64 v2, .int .i64 v3, .int .i64 (v3 + v4), .int .i64 v5, .int .i64 v6, .int .i64 v7, .int .i64 v8] 78)).heap.size by have := O2.out.size; simp; omega)
                go_wp2_with (first
                  | (at_builtin
                     go_loud (refine wpList_append_rows rfl (.tmp 89) (.tmp 91) 22 rfl w.heap.size 78 i0 _ 9 72 Try.underlying22 HI.out HZ0.out HZ1.out HZ2.out rfl (by decide) _ (A.map Pt.row) [[.int .i64 (l + v0), .int .i64 v1, .int .i64 v2, .int .i64 v3, .int .i64 (v3 + v4), .int .i64 v5, .int .i64 v6, .int .i64 v7, .int .i64 v8]] rfl HOA.out w13.heap.size 0 1 1 rfl rfl HRK.out (wide9d _ _ _ _ _ _ _ _ _) HL1.out HL2.out HBS.out ?_)
                     intro v10 W6 hown6 hg6 z6
                     clear z6
                     have HO6 := hid (show OwnP W6 w.heap.size v10 (A ++ [⟨(l + v0), v1, v2, v3, (v3 + v4), v5, v6, v7, v8⟩]) by unfold OwnP; rw [List.map_append]; exact hown6)
                     have R6X := hid (RB.out.kept hg6 (fun e => by have := OwnR.ownBlock HOA.out rb e.symm; omega) (fun e => by have := OwnR.ownBlock HOA.out b e.symm; omega))
                     have O6X := hid (OB.out.kept hg6 (by have := O2.out.size; simp; omega) (fun k e => OwnR.ownBlock HOA.out k e))
                     clear hown6 hg6))
                obtain ⟨oa6, oc6, hv6⟩ := HO6.out.slice
                refine ⟨⟨i + 1, A ++ [⟨(l + v0), v1, v2, v3, (v3 + v4), v5, v6, v7, v8⟩], l + v0, t9, oa6, _, oc6, hv6, by omega, by simp [HA.out], by go_num, rfl, hv6 ▸ HO6.out, R6X.out, O6X.out, fun hb => ?_, ?_⟩, by simp [intOf]; omega⟩
                · exact HBB.out hb
                · rw [HE.out, show N - i = (N - (i + 1)) + 1 by omega, ptsR_next HBD.out HPT.out]
                  simp
              · skip
                by_cases h4 : 1152921504606846976 < l + v0
                · skip
                  have hs5 : t5.mark = (if v3 < -268435456 ∨ 268435456 < v3 ∨ 536870912 < v4 ∨ 1152921504606846976 < l + v0 then t5.mark else t5) := (if_pos (Or.inr (Or.inr (Or.inr h4)))).symm
                  have hpt := HP0.out _ hs5
                  rcases e5 : nextS false t5.mark with ⟨v5, t6⟩
                  rcases e6 : nextS false t6 with ⟨v6, t7⟩
                  rcases e7 : nextS false t7 with ⟨v7, t8⟩
                  rcases e8 : nextS false t8 with ⟨v8, t9⟩
                  simp only [e5, e6, e7, e8] at hpt
                  have HPT := hid hpt
                  have HBB := hid (show t9.bad = false → 0 ≤ l + v0 ∧ l + v0 ≤ 1152921504606846976 from fun hb => by
                    have k5 : (t5.mark).bad = true := rfl
                    have k6 := nextS_keeps false _ k5; rw [e5] at k6
                    have k7 := nextS_keeps false _ k6; rw [e6] at k7
                    have k8 := nextS_keeps false _ k7; rw [e7] at k8
                    have k9 := nextS_keeps false _ k8; rw [e8] at k9
                    exact absurd (hb.symm.trans k9) (by decide))
                  have k1 : decide (v3 < (-268435456 : Int)) = false := decide_eq_false h1
                  have k2 : decide ((268435456 : Int) < v3) = false := decide_eq_false h2
                  have k3 : decide ((536870912 : Int) < v4) = false := decide_eq_false h3
                  have k4 : decide ((1152921504606846976 : Int) < l + v0) = true := decide_eq_true h4
                  have E5 := hid e5
                  have E6 := hid e6
                  have E7 := hid e7
                  have E8 := hid e8
                  clear e5 e6 e7 e8 hs5 hpt HP0 h1 h2 h3 h4
                  have FA := hid (heap_alloc_at wr (.cells #[.int .i64 0, .int .i64 0, .int .i64 0, .int .i64 0, .int .i64 0, .int .i64 0, .int .i64 0, .int .i64 0, .int .i64 0] 78) pb hpb)
                  have RA := hid (R2.out.alloc (.cells #[.int .i64 0, .int .i64 0, .int .i64 0, .int .i64 0, .int .i64 0, .int .i64 0, .int .i64 0, .int .i64 0, .int .i64 0] 78))
                  have OA := hid ((Only.refl rb wr.heap.size wr).alloc (Nat.le_refl _) (.cells #[.int .i64 0, .int .i64 0, .int .i64 0, .int .i64 0, .int .i64 0, .int .i64 0, .int .i64 0, .int .i64 0, .int .i64 0] 78))
                  have zA : (wr.alloc (.cells #[.int .i64 0, .int .i64 0, .int .i64 0, .int .i64 0, .int .i64 0, .int .i64 0, .int .i64 0, .int .i64 0, .int .i64 0] 78)).heap.size = pb + 1 := by simp [hpb]
                  have HPB := hid hpb
                  clear hpb
                  go_wp2_with fail
                  rw [← HPB.out]
                  clear HPB
                  generalize wr.alloc (.cells #[.int .i64 0, .int .i64 0, .int .i64 0, .int .i64 0, .int .i64 0, .int .i64 0, .int .i64 0, .int .i64 0, .int .i64 0] 78) = W3 at *
                  refine (rnum_at _ E0.out RA.out).mono ?_
                  rintro r w5 ⟨rfl, hrd, hol⟩
                  have R5 := hid hrd
                  have F5 := hid (show w5.heap[pb]? = some (.cells #[.int .i64 0, .int .i64 0, .int .i64 0, .int .i64 0, .int .i64 0, .int .i64 0, .int .i64 0, .int .i64 0, .int .i64 0] 78) from hol.heap (by omega) FA.out)
                  have O5 := hid (OA.out.trans hol (by omega))
                  have hz5 : pb < w5.heap.size := (Array.getElem?_eq_some_iff.1 F5.out).1
                  clear hrd hol fb
                  have c5 : w5.cell? ⟨pb, 0, none⟩ = some (.int .i64 0) := (cell_row (j := 0) F5.out).trans rfl
                  have f5 : w5.frozen? ⟨pb, 0, none⟩ = false := by have hh := F5.out; simp [World.frozen?, hh]
                  go_wp2_with fail
                  refine (rsig_at _ E1.out (R5.out.set (by omega) (by omega) _)).mono ?_
                  rintro r w6 ⟨rfl, hrd, hol⟩
                  have R6 := hid hrd
                  have F6 := hid (show w6.heap[pb]? = some (.cells #[.int .i64 (l + v0), .int .i64 0, .int .i64 0, .int .i64 0, .int .i64 0, .int .i64 0, .int .i64 0, .int .i64 0, .int .i64 0] 78) from hol.heap (by omega) (heap_setCell F5.out _))
                  have O6 := hid ((O5.out.set (by omega) _).trans hol (by first | omega | (simp; omega)))
                  have hz6 : pb < w6.heap.size := (Array.getElem?_eq_some_iff.1 F6.out).1
                  clear hrd hol
                  have c6 : w6.cell? ⟨pb, 1, none⟩ = some (.int .i64 0) := (cell_row (j := 1) F6.out).trans rfl
                  have f6 : w6.frozen? ⟨pb, 1, none⟩ = false := by have hh := F6.out; simp [World.frozen?, hh]
                  go_wp2_with fail
                  refine (rsig_at _ E2.out (R6.out.set (by omega) (by omega) _)).mono ?_
                  rintro r w7 ⟨rfl, hrd, hol⟩
                  have R7 := hid hrd
                  have F7 := hid (show w7.heap[pb]? = some (.cells #[.int .i64 (l + v0), .int .i64 v1, .int .i64 0, .int .i64 0, .int .i64 0, .int .i64 0, .int .i64 0, .int .i64 0, .int .i64 0] 78) from hol.heap (by omega) (heap_setCell F6.out _))
                  have O7 := hid ((O6.out.set (by omega) _).trans hol (by first | omega | (simp; omega)))
                  have hz7 : pb < w7.heap.size := (Array.getElem?_eq_some_iff.1 F7.out).1
                  clear hrd hol
                  have c7 : w7.cell? ⟨pb, 2, none⟩ = some (.int .i64 0) := (cell_row (j := 2) F7.out).trans rfl
                  have f7 : w7.frozen? ⟨pb, 2, none⟩ = false := by have hh := F7.out; simp [World.frozen?, hh]
                  go_wp2_with fail
                  refine (rsig_at _ E3.out (R7.out.set (by omega) (by omega) _)).mono ?_
                  rintro r w8 ⟨rfl, hrd, hol⟩
                  have R8 := hid hrd
                  have F8 := hid (show w8.heap[pb]? = some (.cells #[.int .i64 (l + v0), .int .i64 v1, .int .i64 v2, .int .i64 0, .int .i64 0, .int .i64 0, .int .i64 0, .int .i64 0, .int .i64 0] 78) from hol.heap (by omega) (heap_setCell F7.out _))
                  have O8 := hid ((O7.out.set (by omega) _).trans hol (by first | omega | (simp; omega)))
                  have hz8 : pb < w8.heap.size := (Array.getElem?_eq_some_iff.1 F8.out).1
                  clear hrd hol
                  have c8 : w8.cell? ⟨pb, 3, none⟩ = some (.int .i64 0) := (cell_row (j := 3) F8.out).trans rfl
                  have f8 : w8.frozen? ⟨pb, 3, none⟩ = false := by have hh := F8.out; simp [World.frozen?, hh]
                  go_wp2_with fail
                  refine (rnum_at _ E4.out (R8.out.set (by omega) (by omega) _)).mono ?_
                  rintro r w9 ⟨rfl, hrd, hol⟩
                  have R9 := hid hrd
                  have F9 := hid (show w9.heap[pb]? = some (.cells #[.int .i64 (l + v0), .int .i64 v1, .int .i64 v2, .int .i64 v3, .int .i64 0, .int .i64 0, .int .i64 0, .int .i64 0, .int .i64 0] 78) from hol.heap (by omega) (heap_setCell F8.out _))
                  have O9 := hid ((O8.out.set (by omega) _).trans hol (by first | omega | (simp; omega)))
                  have hz9 : pb < w9.heap.size := (Array.getElem?_eq_some_iff.1 F9.out).1
                  clear hrd hol
                  clear c5 f5 c6 f6 c7 f7 c8 f8
                  have y3 : w9.cell? ⟨pb, 3, none⟩ = some (.int .i64 v3) := (cell_row (j := 3) F9.out).trans rfl
                  have y0 : w9.cell? ⟨pb, 0, none⟩ = some (.int .i64 (l + v0)) := (cell_row (j := 0) F9.out).trans rfl
                  have yb2 := R9.out.flag.1
                  have yf2 := R9.out.flag.2
                  have RZ := hid R9.out.mark
                  have FZ := hid (heap_set_other (j := 1) (g := rb) F9.out (by omega) (.bool true))
                  have OZ := hid (only_setCell (j := 1) O9.out (.bool true))
                  have y3b : (w9.setCell ⟨rb, 1, none⟩ (.bool true)).cell? ⟨pb, 3, none⟩ = some (.int .i64 v3) := (cell_row (j := 3) FZ.out).trans rfl
                  have c9 : (w9.setCell ⟨rb, 1, none⟩ (.bool true)).cell? ⟨pb, 4, none⟩ = some (.int .i64 0) := (cell_row (j := 4) FZ.out).trans rfl
                  have f9 : (w9.setCell ⟨rb, 1, none⟩ (.bool true)).frozen? ⟨pb, 4, none⟩ = false := by have hh := FZ.out; simp [World.frozen?, hh]
                  go_wp2_with fail
                  refine (rnum_at _ E5.out (RZ.out.set (by omega) (by omega) _)).mono ?_
                  rintro r w10 ⟨rfl, hrd, hol⟩
                  have R10 := hid hrd
                  have F10 := hid (show w10.heap[pb]? = some (.cells #[.int .i64 (l + v0), .int .i64 v1, .int .i64 v2, .int .i64 v3, .int .i64 (v3 + v4), .int .i64 0, .int .i64 0, .int .i64 0, .int .i64 0] 78) from hol.heap (by omega) (heap_setCell FZ.out _))
                  have O10 := hid ((OZ.out.set (by omega) _).trans hol (by first | omega | (simp; omega)))
                  have hz10 : pb < w10.heap.size := (Array.getElem?_eq_some_iff.1 F10.out).1
                  clear hrd hol
                  have c10 : w10.cell? ⟨pb, 5, none⟩ = some (.int .i64 0) := (cell_row (j := 5) F10.out).trans rfl
                  have f10 : w10.frozen? ⟨pb, 5, none⟩ = false := by have hh := F10.out; simp [World.frozen?, hh]
                  go_wp2_with fail
                  refine (rnum_at _ E6.out (R10.out.set (by omega) (by omega) _)).mono ?_
                  rintro r w11 ⟨rfl, hrd, hol⟩
                  have R11 := hid hrd
                  have F11 := hid (show w11.heap[pb]? = some (.cells #[.int .i64 (l + v0), .int .i64 v1, .int .i64 v2, .int .i64 v3, .int .i64 (v3 + v4), .int .i64 v5, .int .i64 0, .int .i64 0, .int .i64 0] 78) from hol.heap (by omega) (heap_setCell F10.out _))
                  have O11 := hid ((O10.out.set (by omega) _).trans hol (by first | omega | (simp; omega)))
                  have hz11 : pb < w11.heap.size := (Array.getElem?_eq_some_iff.1 F11.out).1
                  clear hrd hol
                  have c11 : w11.cell? ⟨pb, 6, none⟩ = some (.int .i64 0) := (cell_row (j := 6) F11.out).trans rfl
                  have f11 : w11.frozen? ⟨pb, 6, none⟩ = false := by have hh := F11.out; simp [World.frozen?, hh]
                  go_wp2_with fail
                  refine (rnum_at _ E7.out (R11.out.set (by omega) (by omega) _)).mono ?_
                  rintro r w12 ⟨rfl, hrd, hol⟩
                  have R12 := hid hrd
                  have F12 := hid (show w12.heap[pb]? = some (.cells #[.int .i64 (l + v0), .int .i64 v1, .int .i64 v2, .int .i64 v3, .int .i64 (v3 + v4), .int .i64 v5, .int .i64 v6, .int .i64 0, .int .i64 0] 78) from hol.heap (by omega) (heap_setCell F11.out _))
                  have O12 := hid ((O11.out.set (by omega) _).trans hol (by first | omega | (simp; omega)))
                  have hz12 : pb < w12.heap.size := (Array.getElem?_eq_some_iff.1 F12.out).1
                  clear hrd hol
                  have c12 : w12.cell? ⟨pb, 7, none⟩ = some (.int .i64 0) := (cell_row (j := 7) F12.out).trans rfl
                  have f12 : w12.frozen? ⟨pb, 7, none⟩ = false := by have hh := F12.out; simp [World.frozen?, hh]
                  go_wp2_with fail
                  refine (rnum_at _ E8.out (R12.out.set (by omega) (by omega) _)).mono ?_
                  rintro r w13 ⟨rfl, hrd, hol⟩
                  have R13 := hid hrd
                  have F13 := hid (show w13.heap[pb]? = some (.cells #[.int .i64 (l + v0), .int .i64 v1, .int .i64 v2, .int .i64 v3, .int .i64 (v3 + v4), .int .i64 v5, .int .i64 v6, .int .i64 v7, .int .i64 0] 78) from hol.heap (by omega) (heap_setCell F12.out _))
                  have O13 := hid ((O12.out.set (by omega) _).trans hol (by first | omega | (simp; omega)))
                  have hz13 : pb < w13.heap.size := (Array.getElem?_eq_some_iff.1 F13.out).1
                  clear hrd hol
                  have c13 : w13.cell? ⟨pb, 8, none⟩ = some (.int .i64 0) := (cell_row (j := 8) F13.out).trans rfl
                  have f13 : w13.frozen? ⟨pb, 8, none⟩ = false := by have hh := F13.out; simp [World.frozen?, hh]
                  have RX := hid (show RdAt (w13.setCell ⟨pb, 8, none⟩ (.int .i64 v8)) rb 96 b t9 from (R13.out.set (by omega) (by omega) _))
                  have FX := hid (show (w13.setCell ⟨pb, 8, none⟩ (.int .i64 v8)).heap[pb]? = some (.cells #[.int .i64 (l + v0), .int .i64 v1, .int .i64 v2, .int .i64 v3, .int .i64 (v3 + v4), .int .i64 v5, .int .i64 v6, .int .i64 v7, .int .i64 v8] 78) from (heap_setCell F13.out _))
                  have OX := hid (show Only rb wr.heap.size wr (w13.setCell ⟨pb, 8, none⟩ (.int .i64 v8)) from (O13.out.set (by omega) _))
                  have d0 : (w13.setCell ⟨pb, 8, none⟩ (.int .i64 v8)).cell? ⟨pb, 0, none⟩ = some (.int .i64 (l + v0)) := (cell_row (j := 0) FX.out).trans rfl
                  have d1 : (w13.setCell ⟨pb, 8, none⟩ (.int .i64 v8)).cell? ⟨pb, 1, none⟩ = some (.int .i64 v1) := (cell_row (j := 1) FX.out).trans rfl
                  have d2 : (w13.setCell ⟨pb, 8, none⟩ (.int .i64 v8)).cell? ⟨pb, 2, none⟩ = some (.int .i64 v2) := (cell_row (j := 2) FX.out).trans rfl
                  have d3 : (w13.setCell ⟨pb, 8, none⟩ (.int .i64 v8)).cell? ⟨pb, 3, none⟩ = some (.int .i64 v3) := (cell_row (j := 3) FX.out).trans rfl
                  have d4 : (w13.setCell ⟨pb, 8, none⟩ (.int .i64 v8)).cell? ⟨pb, 4, none⟩ = some (.int .i64 (v3 + v4)) := (cell_row (j := 4) FX.out).trans rfl
                  have d5 : (w13.setCell ⟨pb, 8, none⟩ (.int .i64 v8)).cell? ⟨pb, 5, none⟩ = some (.int .i64 v5) := (cell_row (j := 5) FX.out).trans rfl
                  have d6 : (w13.setCell ⟨pb, 8, none⟩ (.int .i64 v8)).cell? ⟨pb, 6, none⟩ = some (.int .i64 v6) := (cell_row (j := 6) FX.out).trans rfl
                  have d7 : (w13.setCell ⟨pb, 8, none⟩ (.int .i64 v8)).cell? ⟨pb, 7, none⟩ = some (.int .i64 v7) := (cell_row (j := 7) FX.out).trans rfl
                  have d8 : (w13.setCell ⟨pb, 8, none⟩ (.int .i64 v8)).cell? ⟨pb, 8, none⟩ = some (.int .i64 v8) := (cell_row (j := 8) FX.out).trans rfl
                  have HRK := hid (RowsAt.one (heap_alloc_at (w13.setCell ⟨pb, 8, none⟩ (.int .i64 v8)) _ _ (by simp)) : RowsAt ((w13.setCell ⟨pb, 8, none⟩ (.int .i64 v8)).alloc (.cells #[.int .i64 (l + v0), .int .i64 v1, .int .i64 v2, .int .i64 v3, .int .i64 (v3 + v4), .int .i64 v5, .int .i64 v6, .int .i64 v7, .int .i64 v8] 78)) w13.heap.size 0 9 [[.int .i64 (l + v0), .int .i64 v1, .int .i64 v2, .int .i64 v3, .int .i64 (v3 + v4), .int .i64 v5, .int .i64 v6, .int .i64 v7, .int .i64 v8]])
                  have HOA := hid (OwnR.grow (W' := (w13.setCell ⟨pb, 8, none⟩ (.int .i64 v8)).alloc (.cells #[.int .i64 (l + v0), .int .i64 v1, .int .i64 v2, .int .i64 v3, .int .i64 (v3 + v4), .int .i64 v5, .int .i64 v6, .int .i64 v7, .int .i64 v8] 78)) (HO.out.only OX.out (Nat.le_refl _) hrb) ((Below.refl _ _).alloc (Nat.le_refl _) _) : OwnR _ w.heap.size 78 9 (.slice oa on oc) (A.map Pt.row))
                  have RB := hid (RX.out.alloc (.cells #[.int .i64 (l + v0), .int .i64 v1, .int .i64 v2, .int .i64 v3, .int .i64 (v3 + v4), .int .i64 v5, .int .i64 v6, .int .i64 v7, .int .i64 v8] 78))
                  have OB := hid ((O2.out.trans OX.out O2.out.size).alloc (by have := O2.out.size; simp; omega) (.cells #[.int .i64 (l + v0), .int .i64 v1, .int .i64 v2, .int .i64 v3, .int .i64 (v3 + v4), .int .i64 v5, .int .i64 v6, .int .i64 v7, .int .i64 v8] 78))
                  have HL1 := hid (show (A.map Pt.row).length + 1 ≤ maxLen by rw [List.length_map, HA.out]; unfold maxLen; omega)
                  have HL2 := hid (show ((A.map Pt.row).length + 1) * 72 ≤ 140737488355328 by rw [List.length_map, HA.out]; omega)
                  have HBS := hid (show w.heap.size ≤ ((w13.setCell ⟨pb, 8, none⟩ (.int .i64 v8)).alloc (.cells #[.int .i64 (l + v0), .int .i64 v1, .int .i64 v2, .int .i64 v3, .int .i64 (v3 + v4), .int .i64 v5, .int .i64 v6, .int .i64 v7, .int .i64 v8] 78)).heap.size by have := O2.out.size; simp; omega)
                  go_wp2_with (first
                    | (at_builtin
                       go_loud (refine wpList_append_rows rfl (.tmp 89) (.tmp 91) 22 rfl w.heap.size 78 i0 _ 9 72 Try.underlying22 HI.out HZ0.out HZ1.out HZ2.out rfl (by decide) _ (A.map Pt.row) [[.int .i64 (l + v0), .int .i64 v1, .int .i64 v2, .int .i64 v3, .int .i64 (v3 + v4), .int .i64 v5, .int .i64 v6, .int .i64 v7, .int .i64 v8]] rfl HOA.out w13.heap.size 0 1 1 rfl rfl HRK.out (wide9d _ _ _ _ _ _ _ _ _) HL1.out HL2.out HBS.out ?_)
                       intro v10 W6 hown6 hg6 z6
                       clear z6
                       have HO6 := hid (show OwnP W6 w.heap.size v10 (A ++ [⟨(l + v0), v1, v2, v3, (v3 + v4), v5, v6, v7, v8⟩]) by unfold OwnP; rw [List.map_append]; exact hown6)
                       have R6X := hid (RB.out.kept hg6 (fun e => by have := OwnR.ownBlock HOA.out rb e.symm; omega) (fun e => by have := OwnR.ownBlock HOA.out b e.symm; omega))
                       have O6X := hid (OB.out.kept hg6 (by have := O2.out.size; simp; omega) (fun k e => OwnR.ownBlock HOA.out k e))
                       clear hown6 hg6))
                  obtain ⟨oa6, oc6, hv6⟩ := HO6.out.slice
                  refine ⟨⟨i + 1, A ++ [⟨(l + v0), v1, v2, v3, (v3 + v4), v5, v6, v7, v8⟩], l + v0, t9, oa6, _, oc6, hv6, by omega, by simp [HA.out], by go_num, rfl, hv6 ▸ HO6.out, R6X.out, O6X.out, fun hb => ?_, ?_⟩, by simp [intOf]; omega⟩
                  · exact HBB.out hb
                  · rw [HE.out, show N - i = (N - (i + 1)) + 1 by omega, ptsR_next HBD.out HPT.out]
                    simp
                · skip
                  have hs5 : t5 = (if v3 < -268435456 ∨ 268435456 < v3 ∨ 536870912 < v4 ∨ 1152921504606846976 < l + v0 then t5.mark else t5) := (if_neg (fun h => h.elim h1 (fun h => h.elim h2 (fun h => h.elim h3 h4)))).symm
                  have hpt := HP0.out _ hs5
                  rcases e5 : nextS false t5 with ⟨v5, t6⟩
                  rcases e6 : nextS false t6 with ⟨v6, t7⟩
                  rcases e7 : nextS false t7 with ⟨v7, t8⟩
                  rcases e8 : nextS false t8 with ⟨v8, t9⟩
                  simp only [e5, e6, e7, e8] at hpt
                  have HPT := hid hpt
                  have HBB := hid (show t9.bad = false → 0 ≤ l + v0 ∧ l + v0 ≤ 1152921504606846976 from fun _ => by omega)
                  have k1 : decide (v3 < (-268435456 : Int)) = false := decide_eq_false h1
                  have k2 : decide ((268435456 : Int) < v3) = false := decide_eq_false h2
                  have k3 : decide ((536870912 : Int) < v4) = false := decide_eq_false h3
                  have k4 : decide ((1152921504606846976 : Int) < l + v0) = false := decide_eq_false h4
                  have E5 := hid e5
                  have E6 := hid e6
                  have E7 := hid e7
                  have E8 := hid e8
                  clear e5 e6 e7 e8 hs5 hpt HP0 h1 h2 h3 h4
                  have FA := hid (heap_alloc_at wr (.cells #[.int .i64 0, .int .i64 0, .int .i64 0, .int .i64 0, .int .i64 0, .int .i64 0, .int .i64 0, .int .i64 0, .int .i64 0] 78) pb hpb)
                  have RA := hid (R2.out.alloc (.cells #[.int .i64 0, .int .i64 0, .int .i64 0, .int .i64 0, .int .i64 0, .int .i64 0, .int .i64 0, .int .i64 0, .int .i64 0] 78))
                  have OA := hid ((Only.refl rb wr.heap.size wr).alloc (Nat.le_refl _) (.cells #[.int .i64 0, .int .i64 0, .int .i64 0, .int .i64 0, .int .i64 0, .int .i64 0, .int .i64 0, .int .i64 0, .int .i64 0] 78))
                  have zA : (wr.alloc (.cells #[.int .i64 0, .int .i64 0, .int .i64 0, .int .i64 0, .int .i64 0, .int .i64 0, .int .i64 0, .int .i64 0, .int .i64 0] 78)).heap.size = pb + 1 := by simp [hpb]
                  have HPB := hid hpb
                  clear hpb
                  go_wp2_with fail
                  rw [← HPB.out]
                  clear HPB
                  generalize wr.alloc (.cells #[.int .i64 0, .int .i64 0, .int .i64 0, .int .i64 0, .int .i64 0, .int .i64 0, .int .i64 0, .int .i64 0, .int .i64 0] 78) = W3 at *
                  refine (rnum_at _ E0.out RA.out).mono ?_
                  rintro r w5 ⟨rfl, hrd, hol⟩
                  have R5 := hid hrd
                  have F5 := hid (show w5.heap[pb]? = some (.cells #[.int .i64 0, .int .i64 0, .int .i64 0, .int .i64 0, .int .i64 0, .int .i64 0, .int .i64 0, .int .i64 0, .int .i64 0] 78) from hol.heap (by omega) FA.out)
                  have O5 := hid (OA.out.trans hol (by omega))
                  have hz5 : pb < w5.heap.size := (Array.getElem?_eq_some_iff.1 F5.out).1
                  clear hrd hol fb
                  have c5 : w5.cell? ⟨pb, 0, none⟩ = some (.int .i64 0) := (cell_row (j := 0) F5.out).trans rfl
                  have f5 : w5.frozen? ⟨pb, 0, none⟩ = false := by have hh := F5.out; simp [World.frozen?, hh]
                  go_wp2_with fail
                  refine (rsig_at _ E1.out (R5.out.set (by omega) (by omega) _)).mono ?_
                  rintro r w6 ⟨rfl, hrd, hol⟩
                  have R6 := hid hrd
                  have F6 := hid (show w6.heap[pb]? = some (.cells #[.int .i64 (l + v0), .int .i64 0, .int .i64 0, .int .i64 0, .int .i64 0, .int .i64 0, .int .i64 0, .int .i64 0, .int .i64 0] 78) from hol.heap (by omega) (heap_setCell F5.out _))
                  have O6 := hid ((O5.out.set (by omega) _).trans hol (by first | omega | (simp; omega)))
                  have hz6 : pb < w6.heap.size := (Array.getElem?_eq_some_iff.1 F6.out).1
                  clear hrd hol
                  have c6 : w6.cell? ⟨pb, 1, none⟩ = some (.int .i64 0) := (cell_row (j := 1) F6.out).trans rfl
                  have f6 : w6.frozen? ⟨pb, 1, none⟩ = false := by have hh := F6.out; simp [World.frozen?, hh]
                  go_wp2_with fail
                  refine (rsig_at _ E2.out (R6.out.set (by omega) (by omega) _)).mono ?_
                  rintro r w7 ⟨rfl, hrd, hol⟩
                  have R7 := hid hrd
                  have F7 := hid (show w7.heap[pb]? = some (.cells #[.int .i64 (l + v0), .int .i64 v1, .int .i64 0, .int .i64 0, .int .i64 0, .int .i64 0, .int .i64 0, .int .i64 0, .int .i64 0] 78) from hol.heap (by omega) (heap_setCell F6.out _))
                  have O7 := hid ((O6.out.set (by omega) _).trans hol (by first | omega | (simp; omega)))
                  have hz7 : pb < w7.heap.size := (Array.getElem?_eq_some_iff.1 F7.out).1
                  clear hrd hol
                  have c7 : w7.cell? ⟨pb, 2, none⟩ = some (.int .i64 0) := (cell_row (j := 2) F7.out).trans rfl
                  have f7 : w7.frozen? ⟨pb, 2, none⟩ = false := by have hh := F7.out; simp [World.frozen?, hh]
                  go_wp2_with fail
                  refine (rsig_at _ E3.out (R7.out.set (by omega) (by omega) _)).mono ?_
                  rintro r w8 ⟨rfl, hrd, hol⟩
                  have R8 := hid hrd
                  have F8 := hid (show w8.heap[pb]? = some (.cells #[.int .i64 (l + v0), .int .i64 v1, .int .i64 v2, .int .i64 0, .int .i64 0, .int .i64 0, .int .i64 0, .int .i64 0, .int .i64 0] 78) from hol.heap (by omega) (heap_setCell F7.out _))
                  have O8 := hid ((O7.out.set (by omega) _).trans hol (by first | omega | (simp; omega)))
                  have hz8 : pb < w8.heap.size := (Array.getElem?_eq_some_iff.1 F8.out).1
                  clear hrd hol
                  have c8 : w8.cell? ⟨pb, 3, none⟩ = some (.int .i64 0) := (cell_row (j := 3) F8.out).trans rfl
                  have f8 : w8.frozen? ⟨pb, 3, none⟩ = false := by have hh := F8.out; simp [World.frozen?, hh]
                  go_wp2_with fail
                  refine (rnum_at _ E4.out (R8.out.set (by omega) (by omega) _)).mono ?_
                  rintro r w9 ⟨rfl, hrd, hol⟩
                  have R9 := hid hrd
                  have F9 := hid (show w9.heap[pb]? = some (.cells #[.int .i64 (l + v0), .int .i64 v1, .int .i64 v2, .int .i64 v3, .int .i64 0, .int .i64 0, .int .i64 0, .int .i64 0, .int .i64 0] 78) from hol.heap (by omega) (heap_setCell F8.out _))
                  have O9 := hid ((O8.out.set (by omega) _).trans hol (by first | omega | (simp; omega)))
                  have hz9 : pb < w9.heap.size := (Array.getElem?_eq_some_iff.1 F9.out).1
                  clear hrd hol
                  clear c5 f5 c6 f6 c7 f7 c8 f8
                  have y3 : w9.cell? ⟨pb, 3, none⟩ = some (.int .i64 v3) := (cell_row (j := 3) F9.out).trans rfl
                  have y0 : w9.cell? ⟨pb, 0, none⟩ = some (.int .i64 (l + v0)) := (cell_row (j := 0) F9.out).trans rfl
                  have c9 : w9.cell? ⟨pb, 4, none⟩ = some (.int .i64 0) := (cell_row (j := 4) F9.out).trans rfl
                  have f9 : w9.frozen? ⟨pb, 4, none⟩ = false := by have hh := F9.out; simp [World.frozen?, hh]
                  go_wp2_with fail
                  refine (rnum_at _ E5.out (R9.out.set (by omega) (by omega) _)).mono ?_
                  rintro r w10 ⟨rfl, hrd, hol⟩
                  have R10 := hid hrd
                  have F10 := hid (show w10.heap[pb]? = some (.cells #[.int .i64 (l + v0), .int .i64 v1, .int .i64 v2, .int .i64 v3, .int .i64 (v3 + v4), .int .i64 0, .int .i64 0, .int .i64 0, .int .i64 0] 78) from hol.heap (by omega) (heap_setCell F9.out _))
                  have O10 := hid ((O9.out.set (by omega) _).trans hol (by first | omega | (simp; omega)))
                  have hz10 : pb < w10.heap.size := (Array.getElem?_eq_some_iff.1 F10.out).1
                  clear hrd hol
                  have c10 : w10.cell? ⟨pb, 5, none⟩ = some (.int .i64 0) := (cell_row (j := 5) F10.out).trans rfl
                  have f10 : w10.frozen? ⟨pb, 5, none⟩ = false := by have hh := F10.out; simp [World.frozen?, hh]
                  go_wp2_with fail
                  refine (rnum_at _ E6.out (R10.out.set (by omega) (by omega) _)).mono ?_
                  rintro r w11 ⟨rfl, hrd, hol⟩
                  have R11 := hid hrd
                  have F11 := hid (show w11.heap[pb]? = some (.cells #[.int .i64 (l + v0), .int .i64 v1, .int .i64 v2, .int .i64 v3, .int .i64 (v3 + v4), .int .i64 v5, .int .i64 0, .int .i64 0, .int .i64 0] 78) from hol.heap (by omega) (heap_setCell F10.out _))
                  have O11 := hid ((O10.out.set (by omega) _).trans hol (by first | omega | (simp; omega)))
                  have hz11 : pb < w11.heap.size := (Array.getElem?_eq_some_iff.1 F11.out).1
                  clear hrd hol
                  have c11 : w11.cell? ⟨pb, 6, none⟩ = some (.int .i64 0) := (cell_row (j := 6) F11.out).trans rfl
                  have f11 : w11.frozen? ⟨pb, 6, none⟩ = false := by have hh := F11.out; simp [World.frozen?, hh]
                  go_wp2_with fail
                  refine (rnum_at _ E7.out (R11.out.set (by omega) (by omega) _)).mono ?_
                  rintro r w12 ⟨rfl, hrd, hol⟩
                  have R12 := hid hrd
                  have F12 := hid (show w12.heap[pb]? = some (.cells #[.int .i64 (l + v0), .int .i64 v1, .int .i64 v2, .int .i64 v3, .int .i64 (v3 + v4), .int .i64 v5, .int .i64 v6, .int .i64 0, .int .i64 0] 78) from hol.heap (by omega) (heap_setCell F11.out _))
                  have O12 := hid ((O11.out.set (by omega) _).trans hol (by first | omega | (simp; omega)))
                  have hz12 : pb < w12.heap.size := (Array.getElem?_eq_some_iff.1 F12.out).1
                  clear hrd hol
                  have c12 : w12.cell? ⟨pb, 7, none⟩ = some (.int .i64 0) := (cell_row (j := 7) F12.out).trans rfl
                  have f12 : w12.frozen? ⟨pb, 7, none⟩ = false := by have hh := F12.out; simp [World.frozen?, hh]
                  go_wp2_with fail
                  refine (rnum_at _ E8.out (R12.out.set (by omega) (by omega) _)).mono ?_
                  rintro r w13 ⟨rfl, hrd, hol⟩
                  have R13 := hid hrd
                  have F13 := hid (show w13.heap[pb]? = some (.cells #[.int .i64 (l + v0), .int .i64 v1, .int .i64 v2, .int .i64 v3, .int .i64 (v3 + v4), .int .i64 v5, .int .i64 v6, .int .i64 v7, .int .i64 0] 78) from hol.heap (by omega) (heap_setCell F12.out _))
                  have O13 := hid ((O12.out.set (by omega) _).trans hol (by first | omega | (simp; omega)))
                  have hz13 : pb < w13.heap.size := (Array.getElem?_eq_some_iff.1 F13.out).1
                  clear hrd hol
                  have c13 : w13.cell? ⟨pb, 8, none⟩ = some (.int .i64 0) := (cell_row (j := 8) F13.out).trans rfl
                  have f13 : w13.frozen? ⟨pb, 8, none⟩ = false := by have hh := F13.out; simp [World.frozen?, hh]
                  have RX := hid (show RdAt (w13.setCell ⟨pb, 8, none⟩ (.int .i64 v8)) rb 96 b t9 from (R13.out.set (by omega) (by omega) _))
                  have FX := hid (show (w13.setCell ⟨pb, 8, none⟩ (.int .i64 v8)).heap[pb]? = some (.cells #[.int .i64 (l + v0), .int .i64 v1, .int .i64 v2, .int .i64 v3, .int .i64 (v3 + v4), .int .i64 v5, .int .i64 v6, .int .i64 v7, .int .i64 v8] 78) from (heap_setCell F13.out _))
                  have OX := hid (show Only rb wr.heap.size wr (w13.setCell ⟨pb, 8, none⟩ (.int .i64 v8)) from (O13.out.set (by omega) _))
                  have d0 : (w13.setCell ⟨pb, 8, none⟩ (.int .i64 v8)).cell? ⟨pb, 0, none⟩ = some (.int .i64 (l + v0)) := (cell_row (j := 0) FX.out).trans rfl
                  have d1 : (w13.setCell ⟨pb, 8, none⟩ (.int .i64 v8)).cell? ⟨pb, 1, none⟩ = some (.int .i64 v1) := (cell_row (j := 1) FX.out).trans rfl
                  have d2 : (w13.setCell ⟨pb, 8, none⟩ (.int .i64 v8)).cell? ⟨pb, 2, none⟩ = some (.int .i64 v2) := (cell_row (j := 2) FX.out).trans rfl
                  have d3 : (w13.setCell ⟨pb, 8, none⟩ (.int .i64 v8)).cell? ⟨pb, 3, none⟩ = some (.int .i64 v3) := (cell_row (j := 3) FX.out).trans rfl
                  have d4 : (w13.setCell ⟨pb, 8, none⟩ (.int .i64 v8)).cell? ⟨pb, 4, none⟩ = some (.int .i64 (v3 + v4)) := (cell_row (j := 4) FX.out).trans rfl
                  have d5 : (w13.setCell ⟨pb, 8, none⟩ (.int .i64 v8)).cell? ⟨pb, 5, none⟩ = some (.int .i64 v5) := (cell_row (j := 5) FX.out).trans rfl
                  have d6 : (w13.setCell ⟨pb, 8, none⟩ (.int .i64 v8)).cell? ⟨pb, 6, none⟩ = some (.int .i64 v6) := (cell_row (j := 6) FX.out).trans rfl
                  have d7 : (w13.setCell ⟨pb, 8, none⟩ (.int .i64 v8)).cell? ⟨pb, 7, none⟩ = some (.int .i64 v7) := (cell_row (j := 7) FX.out).trans rfl
                  have d8 : (w13.setCell ⟨pb, 8, none⟩ (.int .i64 v8)).cell? ⟨pb, 8, none⟩ = some (.int .i64 v8) := (cell_row (j := 8) FX.out).trans rfl
                  have HRK := hid (RowsAt.one (heap_alloc_at (w13.setCell ⟨pb, 8, none⟩ (.int .i64 v8)) _ _ (by simp)) : RowsAt ((w13.setCell ⟨pb, 8, none⟩ (.int .i64 v8)).alloc (.cells #[.int .i64 (l + v0), .int .i64 v1, .int .i64 v2, .int .i64 v3, .int .i64 (v3 + v4), .int .i64 v5, .int .i64 v6, .int .i64 v7, .int .i64 v8] 78)) w13.heap.size 0 9 [[.int .i64 (l + v0), .int .i64 v1, .int .i64 v2, .int .i64 v3, .int .i64 (v3 + v4), .int .i64 v5, .int .i64 v6, .int .i64 v7, .int .i64 v8]])
                  have HOA := hid (OwnR.grow (W' := (w13.setCell ⟨pb, 8, none⟩ (.int .i64 v8)).alloc (.cells #[.int .i64 (l + v0), .int .i64 v1, .int .i64 v2, .int .i64 v3, .int .i64 (v3 + v4), .int .i64 v5, .int .i64 v6, .int .i64 v7, .int .i64 v8] 78)) (HO.out.only OX.out (Nat.le_refl _) hrb) ((Below.refl _ _).alloc (Nat.le_refl _) _) : OwnR _ w.heap.size 78 9 (.slice oa on oc) (A.map Pt.row))
                  have RB := hid (RX.out.alloc (.cells #[.int .i64 (l + v0), .int .i64 v1, .int .i64 v2, .int .i64 v3, .int .i64 (v3 + v4), .int .i64 v5, .int .i64 v6, .int .i64 v7, .int .i64 v8] 78))
                  have OB := hid ((O2.out.trans OX.out O2.out.size).alloc (by have := O2.out.size; simp; omega) (.cells #[.int .i64 (l + v0), .int .i64 v1, .int .i64 v2, .int .i64 v3, .int .i64 (v3 + v4), .int .i64 v5, .int .i64 v6, .int .i64 v7, .int .i64 v8] 78))
                  have HL1 := hid (show (A.map Pt.row).length + 1 ≤ maxLen by rw [List.length_map, HA.out]; unfold maxLen; omega)
                  have HL2 := hid (show ((A.map Pt.row).length + 1) * 72 ≤ 140737488355328 by rw [List.length_map, HA.out]; omega)
                  have HBS := hid (show w.heap.size ≤ ((w13.setCell ⟨pb, 8, none⟩ (.int .i64 v8)).alloc (.cells #[.int .i64 (l + v0), .int .i64 v1, .int .i64 v2, .int .i64 v3, .int .i64 (v3 + v4), .int .i64 v5, .int .i64 v6, .int .i64 v7, .int .i64 v8] 78)).heap.size by have := O2.out.size; simp; omega)
                  go_wp2_with (first
                    | (at_builtin
                       go_loud (refine wpList_append_rows rfl (.tmp 89) (.tmp 91) 22 rfl w.heap.size 78 i0 _ 9 72 Try.underlying22 HI.out HZ0.out HZ1.out HZ2.out rfl (by decide) _ (A.map Pt.row) [[.int .i64 (l + v0), .int .i64 v1, .int .i64 v2, .int .i64 v3, .int .i64 (v3 + v4), .int .i64 v5, .int .i64 v6, .int .i64 v7, .int .i64 v8]] rfl HOA.out w13.heap.size 0 1 1 rfl rfl HRK.out (wide9d _ _ _ _ _ _ _ _ _) HL1.out HL2.out HBS.out ?_)
                       intro v10 W6 hown6 hg6 z6
                       clear z6
                       have HO6 := hid (show OwnP W6 w.heap.size v10 (A ++ [⟨(l + v0), v1, v2, v3, (v3 + v4), v5, v6, v7, v8⟩]) by unfold OwnP; rw [List.map_append]; exact hown6)
                       have R6X := hid (RB.out.kept hg6 (fun e => by have := OwnR.ownBlock HOA.out rb e.symm; omega) (fun e => by have := OwnR.ownBlock HOA.out b e.symm; omega))
                       have O6X := hid (OB.out.kept hg6 (by have := O2.out.size; simp; omega) (fun k e => OwnR.ownBlock HOA.out k e))
                       clear hown6 hg6))
                  obtain ⟨oa6, oc6, hv6⟩ := HO6.out.slice
                  refine ⟨⟨i + 1, A ++ [⟨(l + v0), v1, v2, v3, (v3 + v4), v5, v6, v7, v8⟩], l + v0, t9, oa6, _, oc6, hv6, by omega, by simp [HA.out], by go_num, rfl, hv6 ▸ HO6.out, R6X.out, O6X.out, fun hb => ?_, ?_⟩, by simp [intOf]; omega⟩
                  · exact HBB.out hb
                  · rw [HE.out, show N - i = (N - (i + 1)) + 1 by omega, ptsR_next HBD.out HPT.out]
                    simp
      · have HF := hid (ptsR_bad (N - i) l s2 hbad)
        rw [hbad] at fb
        clear hbad
        go_wp2_with fail
        go_ret
        rw [HE.out, HF.out, List.append_nil]
        exact ⟨⟨_, rfl, HO.out, by rw [HA.out]; omega⟩, R2.out, O2.out⟩
    · obtain rfl : i = N := by omega
      have HF := hid (show ptsR (i - i) l s2 = ([], s2) by rw [Nat.sub_self]; rfl)
      have d1 : decide ((i : Int) < (i : Int)) = false := by simp
      go_wp2_with fail
      go_ret
      rw [HE.out, HF.out, List.append_nil]
      exact ⟨⟨_, rfl, HO.out, by rw [HA.out]; omega⟩, R2.out, O2.out⟩
end Go.Proofs.Ytpablkmdpoombaa

/- StrM -/
namespace Go.Proofs.Ytpablkmdpoombaa
open Go.RowKit

def strL (l : List Nat) : ByteArray := strOfNums (l.map fun (x : Nat) => (x : Int))
theorem u5 : Try.prog.underlying 5 = some (.int .u8) := by kernel_rfl
theorem u9 : Try.prog.underlying 9 = some .string := by kernel_rfl
theorem str_at {W : World} {b off cap : Nat} {l : List Nat} (h : bytesAt W b off l.length (fun i => l.getD i 0)) :
    (convert 24 9 (.slice (some ⟨b, off, none⟩) l.length cap)).run Try.prog W = .ok (.string (strL l)) W :=
  run_convert_bytes_arg W 24 5 Try.underlying24 u5 b off l.length cap (l.map fun (x : Nat) => (x : Int)) (by simp) (fun i hi => by
    rw [h i hi]
    show some (Value.int .u8 ((l.getD i 0 : Nat) : Int)) = some (.int .u8 ((l.map fun (x : Nat) => (x : Int)).getD i 0))
    rw [List.getD_eq_getElem?_getD, List.getD_eq_getElem?_getD, List.getElem?_map, List.getElem?_eq_getElem hi]
    rfl) 9 u9
theorem str_none {W : World} {n c : Nat} : (convert 24 9 (.slice none n c)).run Try.prog W = .ok (.string (strL [])) W :=
  run_convert_bytes_nil W 24 5 Try.underlying24 u5 n c 9 u9
theorem strL_inj {l m : List Nat} (hl : ∀ x ∈ l, x < 256) (hm : ∀ x ∈ m, x < 256) (h : strL l = strL m) : l = m := by
  have h1 : (strL l).data.toList = (strL m).data.toList := by rw [h]
  unfold strL at h1
  rw [strOfNums_data, strOfNums_data, List.map_map, List.map_map] at h1
  have h2 : ∀ k : List Nat, (∀ x ∈ k, x < 256) → (k.map ((fun n : Int => UInt8.ofNat n.toNat) ∘ fun (x : Nat) => (x : Int))).map UInt8.toNat = k := fun k hk => by
    rw [List.map_map]
    conv => rhs; rw [← List.map_id k]
    refine List.map_congr_left fun x hx => ?_
    have := hk x hx
    show (UInt8.ofNat (x : Int).toNat).toNat = x
    rw [Int.toNat_natCast, UInt8.toNat_ofNat']
    exact Nat.mod_eq_of_lt (by omega)
  rw [← h2 l hl, h1, h2 m hm]
theorem strL_eq {l m : List Nat} (hl : ∀ x ∈ l, x < 256) (hm : ∀ x ∈ m, x < 256) : strL l = strL m ↔ l = m := ⟨strL_inj hl hm, fun h => h ▸ rfl⟩
theorem str_ne {x y : ByteArray} (h : x ≠ y) : (x.toList == y.toList) = false := by
  refine Bool.eq_false_iff.2 fun he => h ?_
  rw [beq_iff_eq, ByteArray.toList_eq, ByteArray.toList_eq] at he
  exact ByteArray.ext (Array.toList_inj.mp he)
/-- an owned row of bytes as it lies -/
theorem ownB_at {W : World} {B : Nat} {v : Value} {xs : List Nat} (h : OwnB W B v xs) (hp : 0 < xs.length) : ∃ g cap, v = .slice (some ⟨g, 0, none⟩) xs.length cap ∧ xs.length ≤ cap ∧ cap ≤ 9223372036854775807 ∧ bytesAt W g 0 xs.length (fun i => xs.getD i 0) ∧ B ≤ g ∧ g < W.heap.size := by
  have hc := h.1
  obtain ⟨h1, h2⟩ := h.1
  rcases h2 with ⟨_, h0⟩ | ⟨g0, cap, cur, hv, hB, hr, hn, hm, _⟩
  · omega
  · subst hv
    exact ⟨g0, cap, rfl, hn, by unfold maxLen at hm; omega, u8s_cells hc, hB, (Array.getElem?_eq_some_iff.1 hr).1⟩
end Go.Proofs.Ytpablkmdpoombaa

/- DecN -/
namespace Go.Proofs.Ytpablkmdpoombaa
open Go.RowKit

set_option maxRecDepth 100000 in
theorem next_none (rb : Nat) (p0 : Option Addr) (cap : Nat) (bd : Bool) (w : World) (hr : w.heap[rb]? = some (.cells #[.slice p0 0 cap, .bool bd] 96)) :
    Calls Try.prog 46 #[.pointer (some ⟨rb, 0, none⟩), .bool false] w fun r w' => r = .returned (.int .i64 0) ∧ w'.heap[rb]? = some (.cells #[.slice p0 0 cap, .bool true] 96) ∧ Only rb w.heap.size w w' := by
  have HR := hid hr
  have hc0 : w.cell? ⟨rb, 0, none⟩ = some (.slice p0 0 cap) := by simp [World.cell?, hr]
  have hf1 : w.frozen? ⟨rb, 1, none⟩ = false := by simp [World.frozen?, hr]
  have hc1 : w.cell? ⟨rb, 1, none⟩ = some (.bool bd) := by simp [World.cell?, hr]
  have HC := hid (show Calls Try.prog 82 #[.slice p0 0 cap] w fun e w' => e = .returned (.tuple #[.int .i64 0, .int .i64 0, .int .i64 21]) ∧ w = w' by
    clear HR hr hc0 hc1 hf1
    go_enter Try.func82, Try.ntmps82
    go_wp2_with fail
    refine wp_loop_rounds 1 ?_
    rw [rounds_succ]
    go_wp2_with fail
    go_ret3
    exact ⟨rfl, rfl⟩)
  clear hr
  cases bd
  all_goals
    go_enter Try.func46, Try.ntmps46
    go_wp2_with fail
    refine HC.out.mono ?_
    rintro r w1 ⟨rfl, rfl⟩
    go_wp2_with fail
    go_ret
    exact ⟨rfl, heap_setCell HR.out _, only_setCell (Only.refl _ _ _) _⟩
end Go.Proofs.Ytpablkmdpoombaa

/- DecLaw -/
namespace Go.Proofs.Ytpablkmdpoombaa
open Go.ChangeShapes Go.WideShapes Go.ChangeAt Go.RowKit Go.Maps Go.Sort

theorem bytes_still {w W : World} {b off n : Nat} {g : Nat → Nat} (h : bytesAt w b off n g) (hb : b < w.heap.size) (hB : Below w.heap.size w W) : bytesAt W b off n g := by
  intro i hi
  rw [World.cell?_of_block (w := w) (w' := W) (a := ⟨b, off + i, none⟩) (hB.block b hb)]
  exact h i hi
theorem lawFlat5 : flatOf Try.prog 10 5 = some [some .u8] := by kernel_rfl
theorem lawSize5 : (Try.prog.info? 5).map (·.size) = some ([some IntKind.u8] : List (Option IntKind)).length := by kernel_rfl
theorem wf_u8 {n : Int} (h : (Lit.int .u8 n).wf = true) : 0 ≤ n ∧ n < 256 := by
  simp [Lit.wf, IntKind.min, IntKind.max, IntKind.signed, IntKind.bits] at h
  omega
theorem bytes_rows {w : World} {b off n : Nat} (h : rows w b off 1 n [some .u8]) : ∃ l : List Nat, l.length = n ∧ (∀ x ∈ l, x < 256) ∧ bytesAt w b off l.length (fun i => l.getD i 0) := by
  have each : ∀ i, i < n → ∃ q : Nat, q < 256 ∧ w.cell? ⟨b, off + i, none⟩ = some (.int .u8 (q : Nat)) := by
    intro i hi
    obtain ⟨cs, hf, hc⟩ := h i hi
    obtain ⟨z, vs, rfl, hw, _⟩ := fits_int hf
    have hz := wf_u8 hw
    refine ⟨z.toNat, by omega, ?_⟩
    have h0 := hc 0 _ rfl
    rw [show off + i * 1 + 0 = off + i by omega] at h0
    rw [h0, show ((z.toNat : Nat) : Int) = z by omega]
  obtain ⟨l, h1, h2⟩ := list_of n each
  refine ⟨l, h1, fun x hx => ?_, fun i hi => ?_⟩
  · obtain ⟨i, hi⟩ := List.getElem?_of_mem hx
    exact (h2 i x hi).1
  · have h3 : l[i]? = some (l.getD i 0) := by rw [List.getD_eq_getElem?_getD, List.getElem?_eq_getElem hi]; rfl
    exact (h2 i _ h3).2
end Go.Proofs.Ytpablkmdpoombaa

