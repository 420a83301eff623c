/- The program's PoseAt, for whatever track. -/
import Derived.Test.YteoikaedpgianaaPoseIn
import Derived.Test.YteoikaedpgianaaExt
import Derived.Test.YteoikaedpgianaaRefuse
namespace Go.Proofs.Yteoikaedpgianaa
open Go.RowKit Limb

/-- the tail of a region, step by step -/
theorem tl_step {P : Program} {ops : Array Oper} {Q : Exit → Act → World → Prop} {l rest : List Oper} {o : Oper} {a : Act} {w : World} (hl : l = o :: rest)
    (h : ∀ K : Act → World → Prop, (∀ v A' W', A' = a.put o.dst v → SeqS P ops Q rest A' W' → K A' W') → wpList P ops (Exit.then K Q) [o] a w) : SeqS P ops Q l a w := by
  subst hl
  exact h
theorem tl_end {P : Program} {ops : Array Oper} {Q : Exit → Act → World → Prop} {l : List Oper} {a : Act} {w : World} (hl : l = []) (h : Q .normal a w) : SeqS P ops Q l a w := by
  subst hl
  exact h
theorem firstN_first {q : Nat → Bool} : ∀ {n : Nat}, (∃ i, i < n ∧ q i = true) → ∃ k, k < n ∧ firstN q n = k ∧ q k = true ∧ ∀ j, j < k → q j = false
  | n + 1, ⟨i, hi, hq⟩ => by
    by_cases h : ∃ i, i < n ∧ q i = true
    · obtain ⟨k, h1, h2, h3, h4⟩ := firstN_first h
      exact ⟨k, by omega, by unfold firstN; rw [h2, if_pos (by omega)], h3, h4⟩
    · have hall : ∀ j, j < n → q j = false := fun j hj => by
        cases hqj : q j
        · rfl
        · exact absurd ⟨j, hj, hqj⟩ h
      have hin : i = n := by
        rcases Nat.lt_or_ge i n with h2 | h2
        · rw [hall i h2] at hq; cases hq
        · omega
      subst hin
      exact ⟨i, by omega, firstN_hit (allN_iff.2 fun j hj => by rw [hall j hj]; rfl) hq (by omega), hq, hall⟩
theorem xTrack_any (ad : Option Addr) (n c : Nat) (A : Nat → Option Addr) (L C : Nat → Nat) (F : Nat → Nat → Nat → Int) (m0 m1 m2 m3 : Int) (w : World) (hn : n ≤ 9223372036854775807) (hL : ∀ p, L p ≤ 9223372036854775807) (ht : trackAny w ad n A L C F) :
    Calls Try.prog 43 #[.agg #[.slice ad n c], .agg #[.int .i64 m0, .int .i64 m1, .int .i64 m2, .int .i64 m3]] w fun e w' => e = .returned (.bool (trackB m0 m1 m2 m3 n L F)) ∧ Below w.heap.size w w' := by
  rcases Nat.eq_zero_or_pos n with rfl | h
  · rw [show trackB m0 m1 m2 m3 0 L F = rulesB m0 m1 m2 m3 by unfold trackB; rw [show allN (partB m0 L F) 0 = true from rfl, Bool.and_true]]
    exact xTrack_none ad c m0 m1 m2 m3 w
  · obtain ⟨b, off, rfl, hb, h3⟩ := ht h
    exact xTrack_at b off n c A L C F m0 m1 m2 m3 w hb hn hL h3
/-- the error of rules and of a track -/
def checkV (m0 m1 m2 m3 : Int) (n : Nat) (L : Nat → Nat) (F : Nat → Nat → Nat → Int) : Int := if rulesB m0 m1 m2 m3 = false then 42 else if trackB m0 m1 m2 m3 n L F = false then 43 else 0
set_option maxRecDepth 100000 in
theorem checked_any (ad : Option Addr) (n c : Nat) (A : Nat → Option Addr) (L C : Nat → Nat) (F : Nat → Nat → Nat → Int) (m0 m1 m2 m3 : Int) (w : World) (hn : n ≤ 9223372036854775807) (hL : ∀ p, L p ≤ 9223372036854775807) (ht : trackAny w ad n A L C F) :
    Calls Try.prog 110 #[.agg #[.slice ad n c], .agg #[.int .i64 m0, .int .i64 m1, .int .i64 m2, .int .i64 m3]] w fun e w' => e = .returned (.int .i64 (checkV m0 m1 m2 m3 n L F)) ∧ Below w.heap.size w w' := by
  have HBw := hid (Below.refl w.heap.size w)
  have HT := hid (fun W (h : Below w.heap.size w W) => xTrack_any ad n c A L C F m0 m1 m2 m3 W hn hL (ht.still h))
  obtain ⟨res, hres⟩ : ∃ r, r = checkV m0 m1 m2 m3 n L F := ⟨_, rfl⟩
  rw [← hres]
  have HRES := hid hres
  clear ht hres
  by_cases h1 : rulesB m0 m1 m2 m3 = true
  · have H1 := hid h1
    by_cases h2 : trackB m0 m1 m2 m3 n L F = true
    · have H2 := hid h2
      have HR := hid (show res = 0 by rw [HRES.out]; unfold checkV; rw [if_neg (by rw [h1]; decide), if_neg (by rw [h2]; decide)])
      clear h1 h2 HRES
      go_enter Try.func110, Try.ntmps110
      go_wp2_with fail
      refine (xRules_any _ _ _ _ _).mono ?_
      rintro r w1 ⟨rfl, hb⟩
      have HBw1 := hid (show Below w.heap.size w w1 by have hB0 := HBw.out; refine Below.trans ?_ (hb.mono ?_); (focus ((repeat' (first | (with_reducible exact Below.refl _ _) | (with_reducible assumption) | (with_reducible refine Below.alloc ?_ ?_ _) | (with_reducible refine Below.drew ?_) | (with_reducible refine below_drewN ?_ _) | (with_reducible refine Below.setCell ?_ ?_ _) | (with_reducible refine below_setRow ?_ ?_ _) | go_size)); done)); (focus (first | (simp; done) | (simp; omega) | (have hB1 := hB0.size; simp; omega))))
      have hsw1 := hb.size
      (try simp at hsw1)
      have hzw1 : w.heap.size < w1.heap.size := by omega
      obtain ⟨hcw1, hfw1⟩ := bcell hb
      have hkw1 := hid (fun n x => @heap_still _ _ n x hb)
      clear hb
      rw [H1.out]
      have A1 := hid (hkw1.out _ _ (by repeat' (first | (refine heap_alloc_at _ _ _ ?_; (first | rfl | (simp; done) | (simp; omega))) | (refine heap_alloc_past _ _ _ _ ?_))) : w1.heap[w.heap.size]? = some (.cells #[.slice ad n c] 64))
      have M1 := hid (hkw1.out _ _ (by repeat' (first | (refine heap_alloc_at _ _ _ ?_; (first | rfl | (simp; done) | (simp; omega))) | (refine heap_alloc_past _ _ _ _ ?_))) : w1.heap[w.heap.size + 1]? = some (.cells #[.int .i64 m0, .int .i64 m1, .int .i64 m2, .int .i64 m3] 61))
      go_wp2_with (first | (refine wpList_load_at rfl 61 (.tmp 3) rfl rfl M1.out Try.underlying61 rfl size61 rfl ?_) | (refine wpList_load_at rfl 64 (.tmp 2) rfl rfl A1.out Try.underlying64 rfl size64 rfl ?_))
      refine (HT.out _ HBw1.out).mono ?_
      rintro r w2 ⟨rfl, hb⟩
      have HBw2 := hid (show Below w.heap.size w w2 by have hB0 := HBw1.out; refine Below.trans ?_ (hb.mono ?_); (focus ((repeat' (first | (with_reducible exact Below.refl _ _) | (with_reducible assumption) | (with_reducible refine Below.alloc ?_ ?_ _) | (with_reducible refine Below.drew ?_) | (with_reducible refine below_drewN ?_ _) | (with_reducible refine Below.setCell ?_ ?_ _) | (with_reducible refine below_setRow ?_ ?_ _) | go_size)); done)); (focus (first | (simp; done) | (simp; omega) | (have hB1 := hB0.size; simp; omega))))
      have hsw2 := hb.size
      (try simp at hsw2)
      have hzw2 : w.heap.size < w2.heap.size := by omega
      obtain ⟨hcw2, hfw2⟩ := bcell hb
      have hkw2 := hid (fun n x => @heap_still _ _ n x hb)
      clear hb
      rw [H2.out]
      go_wp2_with fail
      go_ret
      exact ⟨by rw [HR.out]; rfl, HBw2.out⟩
    · have H2 := hid (Bool.eq_false_iff.2 h2)
      have HR := hid (show res = 43 by rw [HRES.out]; unfold checkV; rw [if_neg (by rw [h1]; decide), if_pos H2.out])
      clear h1 h2 HRES
      go_enter Try.func110, Try.ntmps110
      go_wp2_with fail
      refine (xRules_any _ _ _ _ _).mono ?_
      rintro r w1 ⟨rfl, hb⟩
      have HBw1 := hid (show Below w.heap.size w w1 by have hB0 := HBw.out; refine Below.trans ?_ (hb.mono ?_); (focus ((repeat' (first | (with_reducible exact Below.refl _ _) | (with_reducible assumption) | (with_reducible refine Below.alloc ?_ ?_ _) | (with_reducible refine Below.drew ?_) | (with_reducible refine below_drewN ?_ _) | (with_reducible refine Below.setCell ?_ ?_ _) | (with_reducible refine below_setRow ?_ ?_ _) | go_size)); done)); (focus (first | (simp; done) | (simp; omega) | (have hB1 := hB0.size; simp; omega))))
      have hsw1 := hb.size
      (try simp at hsw1)
      have hzw1 : w.heap.size < w1.heap.size := by omega
      obtain ⟨hcw1, hfw1⟩ := bcell hb
      have hkw1 := hid (fun n x => @heap_still _ _ n x hb)
      clear hb
      rw [H1.out]
      have A1 := hid (hkw1.out _ _ (by repeat' (first | (refine heap_alloc_at _ _ _ ?_; (first | rfl | (simp; done) | (simp; omega))) | (refine heap_alloc_past _ _ _ _ ?_))) : w1.heap[w.heap.size]? = some (.cells #[.slice ad n c] 64))
      have M1 := hid (hkw1.out _ _ (by repeat' (first | (refine heap_alloc_at _ _ _ ?_; (first | rfl | (simp; done) | (simp; omega))) | (refine heap_alloc_past _ _ _ _ ?_))) : w1.heap[w.heap.size + 1]? = some (.cells #[.int .i64 m0, .int .i64 m1, .int .i64 m2, .int .i64 m3] 61))
      go_wp2_with (first | (refine wpList_load_at rfl 61 (.tmp 3) rfl rfl M1.out Try.underlying61 rfl size61 rfl ?_) | (refine wpList_load_at rfl 64 (.tmp 2) rfl rfl A1.out Try.underlying64 rfl size64 rfl ?_))
      refine (HT.out _ HBw1.out).mono ?_
      rintro r w2 ⟨rfl, hb⟩
      have HBw2 := hid (show Below w.heap.size w w2 by have hB0 := HBw1.out; refine Below.trans ?_ (hb.mono ?_); (focus ((repeat' (first | (with_reducible exact Below.refl _ _) | (with_reducible assumption) | (with_reducible refine Below.alloc ?_ ?_ _) | (with_reducible refine Below.drew ?_) | (with_reducible refine below_drewN ?_ _) | (with_reducible refine Below.setCell ?_ ?_ _) | (with_reducible refine below_setRow ?_ ?_ _) | go_size)); done)); (focus (first | (simp; done) | (simp; omega) | (have hB1 := hB0.size; simp; omega))))
      have hsw2 := hb.size
      (try simp at hsw2)
      have hzw2 : w.heap.size < w2.heap.size := by omega
      obtain ⟨hcw2, hfw2⟩ := bcell hb
      have hkw2 := hid (fun n x => @heap_still _ _ n x hb)
      clear hb
      rw [H2.out]
      go_wp2_with fail
      go_ret
      exact ⟨by rw [HR.out]; rfl, HBw2.out⟩
  · have H1 := hid (Bool.eq_false_iff.2 h1)
    have HR := hid (show res = 42 by rw [HRES.out]; unfold checkV; rw [if_pos H1.out])
    clear h1 HRES
    go_enter Try.func110, Try.ntmps110
    go_wp2_with fail
    refine (xRules_any _ _ _ _ _).mono ?_
    rintro r w1 ⟨rfl, hb⟩
    have HBw1 := hid (show Below w.heap.size w w1 by have hB0 := HBw.out; refine Below.trans ?_ (hb.mono ?_); (focus ((repeat' (first | (with_reducible exact Below.refl _ _) | (with_reducible assumption) | (with_reducible refine Below.alloc ?_ ?_ _) | (with_reducible refine Below.drew ?_) | (with_reducible refine below_drewN ?_ _) | (with_reducible refine Below.setCell ?_ ?_ _) | (with_reducible refine below_setRow ?_ ?_ _) | go_size)); done)); (focus (first | (simp; done) | (simp; omega) | (have hB1 := hB0.size; simp; omega))))
    have hsw1 := hb.size
    (try simp at hsw1)
    have hzw1 : w.heap.size < w1.heap.size := by omega
    obtain ⟨hcw1, hfw1⟩ := bcell hb
    have hkw1 := hid (fun n x => @heap_still _ _ n x hb)
    clear hb
    rw [H1.out]
    go_wp2_with fail
    go_ret
    exact ⟨by rw [HR.out]; rfl, HBw1.out⟩
/-- what is known of a part of a valid track -/
theorem track_part {m0 m1 m2 m3 : Int} {n : Nat} {L : Nat → Nat} {F : Nat → Nat → Nat → Int} (h : trackB m0 m1 m2 m3 n L F = true) {p : Nat} (hp : p < n) :
    0 < L p ∧ (∀ i, i < L p → fixF (F p i) = true) ∧ (∀ i, i + 1 < L p → F p i 0 < F p (i + 1) 0 ∧ F p (i + 1) 0 - F p i 0 ≤ m0) := by
  unfold trackB at h
  rw [Bool.and_eq_true] at h
  have h1 := allN_iff.1 h.2 p hp
  unfold partB at h1
  rw [Bool.and_eq_true] at h1
  have hs := allN_iff.1 h1.2
  refine ⟨by simpa using h1.1, fun i hi => ?_, fun i hi => ?_⟩
  · have := hs i hi
    unfold stepB at this
    simp only [Bool.and_eq_true] at this
    exact this.1.1
  · have := hs (i + 1) hi
    unfold stepB at this
    simp only [Bool.and_eq_true, Bool.or_eq_true, decide_eq_true_eq] at this
    exact ⟨this.1.2, by rcases this.2 with h | h; omega; exact h⟩
def zeroPose : Value := .agg #[.int .i64 0, .int .i64 0, .int .i64 0, .int .i64 0, .int .i64 0, .int .i64 0, .int .i64 0, .int .i64 0, .int .i64 0, .int .i64 0, .int .i64 0]
/-- the index of the first fix of a part that is not before a time -/
def geK (F : Nat → Nat → Int) (L : Nat) (time : Int) : Nat := (firstN (fun k => decide (time ≤ F k 0)) L).toNat
theorem geK_spec {F : Nat → Nat → Int} {L : Nat} {time : Int} (hL : 0 < L) (h : time ≤ F (L - 1) 0) : geK F L time < L ∧ time ≤ F (geK F L time) 0 ∧ ∀ j, j < geK F L time → F j 0 < time := by
  obtain ⟨k, h1, h2, h3, h4⟩ := firstN_first (q := fun k => decide (time ≤ F k 0)) (n := L) ⟨L - 1, by omega, decide_eq_true h⟩
  have e : geK F L time = k := by unfold geK; rw [h2]; rfl
  rw [e]
  exact ⟨h1, of_decide_eq_true h3, fun j hj => by have := of_decide_eq_false (h4 j hj); omega⟩
def poseAtV (m0 m1 m2 m3 : Int) (n : Nat) (L : Nat → Nat) (F : Nat → Nat → Nat → Int) (time : Int) : Value :=
  if checkV m0 m1 m2 m3 n L F ≠ 0 then .tuple #[zeroPose, .int .i64 (checkV m0 m1 m2 m3 n L F)] else if firstN (inPart L F time) n < 0 then .tuple #[zeroPose, .int .i64 44]
  else .tuple #[inV (F (firstN (inPart L F time) n).toNat) (geK (F (firstN (inPart L F time) n).toNat) (L (firstN (inPart L F time) n).toNat) time) m2 m3 time, .int .i64 0]
/-- what the pose within a part asks for -/
theorem part_ready {m0 m1 m2 m3 : Int} {n : Nat} {L : Nat → Nat} {F : Nat → Nat → Nat → Int} {time : Int} (h : trackB m0 m1 m2 m3 n L F = true) {p : Nat} (hp : p < n) (hq : inPart L F time p = true) :
    ∃ K, K = geK (F p) (L p) time ∧ K < L p ∧ time ≤ F p K 0 ∧ (∀ j, j < K → F p j 0 < time) ∧ (∀ j, j ≤ K → fixF (F p j) = true) ∧ (F p K 0 = time ∨ (0 < K ∧ F p K 0 - F p (K - 1) 0 ≤ m0)) := by
  obtain ⟨h1, h2, h3⟩ := track_part h hp
  unfold inPart at hq
  rw [Bool.and_eq_true] at hq
  have e1 := of_decide_eq_true hq.1
  obtain ⟨k1, k2, k3⟩ := geK_spec (F := F p) h1 (of_decide_eq_true hq.2)
  refine ⟨_, rfl, k1, k2, k3, fun j hj => h2 j (by omega), ?_⟩
  generalize geK (F p) (L p) time = K at *
  by_cases he : F p K 0 = time
  · exact Or.inl he
  · right
    have hK : 0 < K := by
      rcases Nat.eq_zero_or_pos K with rfl | h
      · omega
      · exact h
    obtain ⟨q, rfl⟩ : ∃ q, K = q + 1 := ⟨K - 1, by omega⟩
    exact ⟨hK, (h3 q k1).2⟩
theorem inV_agg (F : Nat → Nat → Int) (K : Nat) (m2 m3 time : Int) : ∃ l0 h0 l1 h1 l2 h2 q0 q1 q2 q3 g : Int, inV F K m2 m3 time = poseA l0 h0 l1 h1 l2 h2 q0 q1 q2 q3 g := by
  unfold inV
  split
  · exact ⟨_, _, _, _, _, _, _, _, _, _, _, rfl⟩
  · exact ⟨_, _, _, _, _, _, _, _, _, _, _, rfl⟩
set_option maxRecDepth 100000 in
set_option maxHeartbeats 1600000 in
theorem xPoseAt_any (ad : Option Addr) (n c : Nat) (A : Nat → Option Addr) (L C : Nat → Nat) (F : Nat → Nat → Nat → Int) (m0 m1 m2 m3 time : Int) (w : World) (hn : n ≤ 9223372036854775807) (hL : ∀ p, L p ≤ 9223372036854775807) (ht : trackAny w ad n A L C F) :
    Calls Try.prog 58 #[.agg #[.slice ad n c], .agg #[.int .i64 m0, .int .i64 m1, .int .i64 m2, .int .i64 m3], .int .i64 time] w fun e w' => e = .returned (poseAtV m0 m1 m2 m3 n L F time) ∧ Below w.heap.size w w' := by
  have HBw := hid (Below.refl w.heap.size w)
  have HT := hid (fun W (h : Below w.heap.size w W) => checked_any ad n c A L C F m0 m1 m2 m3 W (by omega) (fun p => by have := hL p; omega) (ht.still h))
  have HTR := hid ht
  have HL := hid hL
  obtain ⟨res, hres⟩ : ∃ r, r = poseAtV m0 m1 m2 m3 n L F time := ⟨_, rfl⟩
  rw [← hres]
  have HRES := hid hres
  clear ht hres hL
  have hB9 := HBw.out
  by_cases h1 : checkV m0 m1 m2 m3 n L F = 0
  · have H1 := hid h1
    have htb : trackB m0 m1 m2 m3 n L F = true := by
      by_cases h2 : trackB m0 m1 m2 m3 n L F = true
      · exact h2
      · unfold checkV at h1
        rw [if_pos (Bool.eq_false_iff.2 h2)] at h1
        split at h1 <;> cases h1
    have HTB := hid htb
    have HP := hid (fun W (h : Below w.heap.size w W) => xPart_any ad n c A L C F time W (by omega) (fun p => by have := HL.out p; omega) (HTR.out.still h) (fun p hp => (track_part htb hp).1))
    have hrul : rulesB m0 m1 m2 m3 = true := by unfold trackB at htb; rw [Bool.and_eq_true] at htb; exact htb.1
    have hmb : m0 ≤ 10000000 ∧ (0 ≤ m2 ∧ m2 ≤ 100000) ∧ (0 ≤ m3 ∧ m3 ≤ 10000000) := by simp [rulesB, inB] at hrul; omega
    clear h1 htb hrul
    rcases firstN_range (inPart L F time) n with hf | ⟨p, hp, hf, hq⟩
    · have HF := hid hf
      have HR := hid (show res = .tuple #[zeroPose, .int .i64 44] by rw [HRES.out]; unfold poseAtV; rw [if_neg (fun h => h H1.out), if_pos (by rw [hf]; decide)])
      clear HRES hf
      go_enter Try.func58, Try.ntmps58
      go_wp2_with fail
      refine (HT.out _ (by (repeat' (first | (with_reducible exact Below.refl _ _) | (with_reducible assumption) | (with_reducible refine Below.alloc ?_ ?_ _) | (with_reducible refine Below.drew ?_) | (with_reducible refine below_drewN ?_ _) | (with_reducible refine Below.setCell ?_ ?_ _) | (with_reducible refine below_setRow ?_ ?_ _) | go_size)))).mono ?_
      rintro r w1 ⟨rfl, hb⟩
      have HBw1 := hid (show Below w.heap.size w w1 by have hB0 := HBw.out; refine Below.trans ?_ (hb.mono ?_); (focus ((repeat' (first | (with_reducible exact Below.refl _ _) | (with_reducible assumption) | (with_reducible refine Below.alloc ?_ ?_ _) | (with_reducible refine Below.drew ?_) | (with_reducible refine below_drewN ?_ _) | (with_reducible refine Below.setCell ?_ ?_ _) | (with_reducible refine below_setRow ?_ ?_ _) | go_size)); done)); (focus (first | (simp; done) | (simp; omega) | (have hB1 := hB0.size; simp; omega))))
      have hsw1 := hb.size
      (try simp at hsw1)
      have hzw1 : w.heap.size < w1.heap.size := by omega
      obtain ⟨hcw1, hfw1⟩ := bcell hb
      have hkw1 := hid (fun n x => @heap_still _ _ n x hb)
      clear hb
      have A1 := hid (hkw1.out _ _ (by repeat' (first | (refine heap_alloc_at _ _ _ ?_; (first | rfl | (simp; done) | (simp; omega))) | (refine heap_alloc_past _ _ _ _ ?_))) : w1.heap[w.heap.size]? = some (.cells #[.slice ad n c] 64))
      have M1 := hid (hkw1.out _ _ (by repeat' (first | (refine heap_alloc_at _ _ _ ?_; (first | rfl | (simp; done) | (simp; omega))) | (refine heap_alloc_past _ _ _ _ ?_))) : w1.heap[w.heap.size + 1]? = some (.cells #[.int .i64 m0, .int .i64 m1, .int .i64 m2, .int .i64 m3] 61))
      have D1 := hid (hkw1.out _ _ (by repeat' (first | (refine heap_alloc_at _ _ _ ?_; (first | rfl | (simp; done) | (simp; omega))) | (refine heap_alloc_past _ _ _ _ ?_))) : w1.heap[w.heap.size + 1 + 1]? = some (.cells #[.int .i64 0, .int .i64 0, .int .i64 0, .int .i64 0, .int .i64 0, .int .i64 0, .int .i64 0, .int .i64 0, .int .i64 0, .int .i64 0, .int .i64 0] 80))
      rw [H1.out]
      go_wp2_with (first | (refine wpList_load_at rfl 64 (.tmp 3) rfl rfl A1.out Try.underlying64 rfl size64 rfl ?_))
      refine (HP.out _ HBw1.out).mono ?_
      rintro r w2 ⟨rfl, hb⟩
      have HBw2 := hid (show Below w.heap.size w w2 by have hB0 := HBw1.out; refine Below.trans ?_ (hb.mono ?_); (focus ((repeat' (first | (with_reducible exact Below.refl _ _) | (with_reducible assumption) | (with_reducible refine Below.alloc ?_ ?_ _) | (with_reducible refine Below.drew ?_) | (with_reducible refine below_drewN ?_ _) | (with_reducible refine Below.setCell ?_ ?_ _) | (with_reducible refine below_setRow ?_ ?_ _) | go_size)); done)); (focus (first | (simp; done) | (simp; omega) | (have hB1 := hB0.size; simp; omega))))
      have hsw2 := hb.size
      (try simp at hsw2)
      have hzw2 : w.heap.size < w2.heap.size := by omega
      obtain ⟨hcw2, hfw2⟩ := bcell hb
      have hkw2 := hid (fun n x => @heap_still _ _ n x hb)
      clear hb
      rw [HF.out]
      have D2 := hid (hkw2.out _ _ D1.out)
      go_wp2_with (first | (refine wpList_store_at rfl 80 (.tmp 6) (.tmp 22) rfl rfl rfl D2.out size80b rfl rfl rfl ?_))
      refine bodyPost_ret (results_at2 rfl rfl (setRow_heap _ _ _ _ _ _ D2.out) Try.underlying80 rfl size80b rfl) rfl ?_
      exact ⟨by rw [HR.out]; rfl, below_setRow HBw2.out (by omega) _⟩
    · have HF := hid hf
      obtain ⟨K, hKe, hK1, hK2, hK3, hK4, hK5⟩ := part_ready HTB.out hp hq
      have hpt : (firstN (inPart L F time) n).toNat = p := by rw [hf]; rfl
      have HR := hid (show res = .tuple #[inV (F p) K m2 m3 time, .int .i64 0] by rw [HRES.out]; unfold poseAtV; rw [if_neg (fun h => h H1.out), if_neg (by rw [hf]; omega), hpt, ← hKe])
      obtain ⟨b, off, hadd, hbw, htr⟩ := HTR.out (by omega)
      obtain ⟨d0, hpp⟩ := htr p hp
      obtain ⟨b', o', ha, hb', hrec⟩ := hpp (by omega)
      rw [ha] at d0
      have HD0 := hid d0
      have HIN := hid (fun W (h : Below w.heap.size w W) => poseIn_any b' o' (L p) (C p) K (F p) m0 m1 m2 m3 time W (Nat.lt_of_lt_of_le hb' h.size) (hrec.still h hb') (by have := HL.out p; omega) hK1 hK2 hK3 hK4 hmb.2.1 hmb.2.2 (by rcases hK5 with h | h; exact Or.inl h; exact Or.inr ⟨h.1, by omega⟩))
      have HADD := hid hadd
      clear hadd
      clear HRES hf hq hK2 hK3 hK4 hK5 hpt htr hpp d0 hrec ha hKe
      obtain ⟨l0, h0, l1, h1, l2, h2, q0, q1, q2, q3, gg, hpv⟩ := inV_agg (F p) K m2 m3 time
      rw [hpv] at HR HIN
      clear hpv
      go_enter Try.func58, Try.ntmps58
      go_wp2_with fail
      refine (HT.out _ (by (repeat' (first | (with_reducible exact Below.refl _ _) | (with_reducible assumption) | (with_reducible refine Below.alloc ?_ ?_ _) | (with_reducible refine Below.drew ?_) | (with_reducible refine below_drewN ?_ _) | (with_reducible refine Below.setCell ?_ ?_ _) | (with_reducible refine below_setRow ?_ ?_ _) | go_size)))).mono ?_
      rintro r w1 ⟨rfl, hb⟩
      have HBw1 := hid (show Below w.heap.size w w1 by have hB0 := HBw.out; refine Below.trans ?_ (hb.mono ?_); (focus ((repeat' (first | (with_reducible exact Below.refl _ _) | (with_reducible assumption) | (with_reducible refine Below.alloc ?_ ?_ _) | (with_reducible refine Below.drew ?_) | (with_reducible refine below_drewN ?_ _) | (with_reducible refine Below.setCell ?_ ?_ _) | (with_reducible refine below_setRow ?_ ?_ _) | go_size)); done)); (focus (first | (simp; done) | (simp; omega) | (have hB1 := hB0.size; simp; omega))))
      have hsw1 := hb.size
      (try simp at hsw1)
      have hzw1 : w.heap.size < w1.heap.size := by omega
      obtain ⟨hcw1, hfw1⟩ := bcell hb
      have hkw1 := hid (fun n x => @heap_still _ _ n x hb)
      clear hb
      have A1 := hid (hkw1.out _ _ (by repeat' (first | (refine heap_alloc_at _ _ _ ?_; (first | rfl | (simp; done) | (simp; omega))) | (refine heap_alloc_past _ _ _ _ ?_))) : w1.heap[w.heap.size]? = some (.cells #[.slice ad n c] 64))
      have M1 := hid (hkw1.out _ _ (by repeat' (first | (refine heap_alloc_at _ _ _ ?_; (first | rfl | (simp; done) | (simp; omega))) | (refine heap_alloc_past _ _ _ _ ?_))) : w1.heap[w.heap.size + 1]? = some (.cells #[.int .i64 m0, .int .i64 m1, .int .i64 m2, .int .i64 m3] 61))
      have D1 := hid (hkw1.out _ _ (by repeat' (first | (refine heap_alloc_at _ _ _ ?_; (first | rfl | (simp; done) | (simp; omega))) | (refine heap_alloc_past _ _ _ _ ?_))) : w1.heap[w.heap.size + 1 + 1]? = some (.cells #[.int .i64 0, .int .i64 0, .int .i64 0, .int .i64 0, .int .i64 0, .int .i64 0, .int .i64 0, .int .i64 0, .int .i64 0, .int .i64 0, .int .i64 0] 80))
      rw [H1.out]
      go_wp2_with (first | (refine wpList_load_at rfl 64 (.tmp 3) rfl rfl A1.out Try.underlying64 rfl size64 rfl ?_))
      refine (HP.out _ HBw1.out).mono ?_
      rintro r w2 ⟨rfl, hb⟩
      have HBw2 := hid (show Below w.heap.size w w2 by have hB0 := HBw1.out; refine Below.trans ?_ (hb.mono ?_); (focus ((repeat' (first | (with_reducible exact Below.refl _ _) | (with_reducible assumption) | (with_reducible refine Below.alloc ?_ ?_ _) | (with_reducible refine Below.drew ?_) | (with_reducible refine below_drewN ?_ _) | (with_reducible refine Below.setCell ?_ ?_ _) | (with_reducible refine below_setRow ?_ ?_ _) | go_size)); done)); (focus (first | (simp; done) | (simp; omega) | (have hB1 := hB0.size; simp; omega))))
      have hsw2 := hb.size
      (try simp at hsw2)
      have hzw2 : w.heap.size < w2.heap.size := by omega
      obtain ⟨hcw2, hfw2⟩ := bcell hb
      have hkw2 := hid (fun n x => @heap_still _ _ n x hb)
      clear hb
      rw [HF.out]
      have A2 := hid (hkw2.out _ _ A1.out)
      have M2 := hid (hkw2.out _ _ M1.out)
      have D2 := hid (hkw2.out _ _ D1.out)
      have hadd := HADD.out
      subst hadd
      clear HADD
      go_wp2_with fail
      have hb2 : b < w2.heap.size := Nat.lt_of_lt_of_le hbw HBw2.out.size
      have E2 := hid (show w2.cell? ⟨b, off + p, none⟩ = some (.slice (some ⟨b', o', none⟩) (L p) (C p)) by rw [HBw2.out.cell hbw]; exact HD0.out)
      refine gen_act (fun A0 hA => ?_)
      refine wp_region_tail (by kernel_rfl) (by kernel_rfl) [some 23, some 24, some 25, some 26, some 27, some 28, some 29, some 30, none, some 7] rfl (by decide) 8 (by decide) (by kernel_rfl) (by kernel_rfl)
        [IsV (.pointer (some ⟨w.heap.size, 0, none⟩)), IsV (.slice (some ⟨b, off, none⟩) n c), IsV (.int .i64 (p : Int)), IsV (.pointer (some ⟨b, off + p, none⟩)), IsV (.slice (some ⟨b', o', none⟩) (L p) (C p)), IsV (.agg #[.int .i64 m0, .int .i64 m1, .int .i64 m2, .int .i64 m3]), IsV (.int .i64 time), IsV (poseA l0 h0 l1 h1 l2 h2 q0 q1 q2 q3 gg)]
        ⟨IsV.stb _, IsV.stb _, IsV.stb _, IsV.stb _, IsV.stb _, IsV.stb _, IsV.stb _, IsV.stb _, trivial⟩ ?hs1_7_W3 ?hend_7_W3
      case hs1_7_W3 =>
        refine ⟨?_, ?_, ?_, ?_, ?_, ?_, ?_, ?_, trivial⟩
        · intro K us W hK0 hB hd
          have hK := hid hK0; clear hK0
          have HBW := hid hB
          have hsW := hB.size
          have GB := hid (HBw2.out.trans (hB.mono HBw2.out.size))
          clear hd
          simp only [putF]
          rw [hA]
          go_frame
          go_wp2_with fail
          exact hK.out _ _ _ (by rw [hA]; simp only [putF]; kernel_rfl) (Below.refl _ _) rfl
        · intro K us W hK0 hB hd
          have hK := hid hK0; clear hK0
          have HBW := hid hB
          have hsW := hB.size
          have GB := hid (HBw2.out.trans (hB.mono HBw2.out.size))
          have e0 : us 0 = .pointer (some ⟨w.heap.size, 0, none⟩) := hd ⟨0, Ground.data⟩ (by simp) rfl
          clear hd
          have c0 : W.cell? ⟨w.heap.size, 0, none⟩ = some (.slice (some ⟨b, off, none⟩) n c) := (cell_row (j := 0) (heap_still hB A2.out)).trans rfl
          simp only [putF]
          rw [hA, e0]
          go_frame
          go_wp2_with fail
          exact hK.out _ _ _ (by rw [hA]; simp only [putF]; rw [e0]; kernel_rfl) (Below.refl _ _) rfl
        · intro K us W hK0 hB hd
          have hK := hid hK0; clear hK0
          have HBW := hid hB
          have hsW := hB.size
          have GB := hid (HBw2.out.trans (hB.mono HBw2.out.size))
          clear hd
          simp only [putF]
          rw [hA]
          go_frame
          go_wp2_with fail
          exact hK.out _ _ _ (by rw [hA]; simp only [putF]; kernel_rfl) (Below.refl _ _) rfl
        · intro K us W hK0 hB hd
          have hK := hid hK0; clear hK0
          have HBW := hid hB
          have hsW := hB.size
          have GB := hid (HBw2.out.trans (hB.mono HBw2.out.size))
          have e1 : us 1 = .slice (some ⟨b, off, none⟩) n c := hd ⟨1, Ground.data⟩ (by simp) rfl
          have e2 : us 2 = .int .i64 (p : Int) := hd ⟨2, Ground.data⟩ (by simp) rfl
          clear hd
          simp only [putF]
          rw [hA, e1, e2]
          go_frame
          go_wp2_with fail
          exact hK.out _ _ _ (by rw [hA]; simp only [putF]; rw [e1, e2]; kernel_rfl) (Below.refl _ _) rfl
        · intro K us W hK0 hB hd
          have hK := hid hK0; clear hK0
          have HBW := hid hB
          have hsW := hB.size
          have GB := hid (HBw2.out.trans (hB.mono HBw2.out.size))
          have e3 : us 3 = .pointer (some ⟨b, off + p, none⟩) := hd ⟨3, Ground.data⟩ (by simp) rfl
          clear hd
          have c0 : W.cell? ⟨b, off + p, none⟩ = some (.slice (some ⟨b', o', none⟩) (L p) (C p)) := by rw [hB.cell hb2]; exact E2.out
          simp only [putF]
          rw [hA, e3]
          go_frame
          go_wp2_with fail
          exact hK.out _ _ _ (by rw [hA]; simp only [putF]; rw [e3]; kernel_rfl) (Below.refl _ _) rfl
        · intro K us W hK0 hB hd
          have hK := hid hK0; clear hK0
          have HBW := hid hB
          have hsW := hB.size
          have GB := hid (HBw2.out.trans (hB.mono HBw2.out.size))
          clear hd
          have G0 := hid (heap_still hB M2.out)
          have c0 : W.cell? ⟨w.heap.size + 1, 0, none⟩ = some (.int .i64 m0) := (cell_row (j := 0) G0.out).trans rfl
          have c1 : W.cell? ⟨w.heap.size + 1, 1, none⟩ = some (.int .i64 m1) := (cell_row (j := 1) G0.out).trans rfl
          have c2 : W.cell? ⟨w.heap.size + 1, 2, none⟩ = some (.int .i64 m2) := (cell_row (j := 2) G0.out).trans rfl
          have c3 : W.cell? ⟨w.heap.size + 1, 3, none⟩ = some (.int .i64 m3) := (cell_row (j := 3) G0.out).trans rfl
          simp only [putF]
          rw [hA]
          go_frame
          go_wp2_with fail
          exact hK.out _ _ _ (by rw [hA]; simp only [putF]; kernel_rfl) (Below.refl _ _) rfl
        · intro K us W hK0 hB hd
          have hK := hid hK0; clear hK0
          have HBW := hid hB
          have hsW := hB.size
          have GB := hid (HBw2.out.trans (hB.mono HBw2.out.size))
          clear hd
          simp only [putF]
          rw [hA]
          go_frame
          go_wp2_with fail
          exact hK.out _ _ _ (by rw [hA]; simp only [putF]; kernel_rfl) (Below.refl _ _) rfl
        · intro K us W hK0 hB hd
          have hK := hid hK0; clear hK0
          have HBW := hid hB
          have hsW := hB.size
          have GB := hid (HBw2.out.trans (hB.mono HBw2.out.size))
          have e4 : us 4 = .slice (some ⟨b', o', none⟩) (L p) (C p) := hd ⟨4, Ground.data⟩ (by simp) rfl
          have e5 : us 5 = .agg #[.int .i64 m0, .int .i64 m1, .int .i64 m2, .int .i64 m3] := hd ⟨5, Ground.data⟩ (by simp) rfl
          have e6 : us 6 = .int .i64 time := hd ⟨6, Ground.data⟩ (by simp) rfl
          clear hd
          simp only [putF]
          rw [hA, e4, e5, e6]
          go_frame
          go_wp2_with fail
          refine (HIN.out W GB.out).mono ?_
          rintro r W' ⟨rfl, hb⟩
          go_wp2_with fail
          exact hK.out _ _ _ (by rw [hA]; simp only [putF]; rw [e4, e5, e6]; kernel_rfl) hb rfl
      intro us W3 hB hp
      have e7 : us 7 = poseA l0 h0 l1 h1 l2 h2 q0 q1 q2 q3 gg := hp 7 (by decide)
      have HB3 := hid (HBw2.out.trans (hB.mono HBw2.out.size))
      have HSW3 := hid (fun n x => @heap_still _ _ n x hB)
      have hzW3 := hB.size
      have hbW3 := hid hB
      clear hp
      clear hB
      simp only [putF]
      rw [hA, e7]
      clear hA e7
      go_frame
      have D3 := hid (HSW3.out _ _ D2.out)
      refine tl_step rfl ?_
      intro K hK0
      have hK := hid hK0
      clear hK0
      go_wp2_with (refine wpList_store_at rfl 80 (.tmp 6) (.tmp 30) rfl rfl rfl D3.out size80b rfl rfl rfl ?_)
      refine hK.out undef _ _ (by kernel_rfl) ?_
      clear hK
      refine tl_step rfl ?_
      intro K hK0
      have hK := hid hK0
      clear hK0
      (try go_frame)
      go_wp2_with fail
      refine hK.out (.int .i64 0) _ _ (by kernel_rfl) ?_
      clear hK
      refine tl_end rfl ?_
      (try go_frame)
      go_wp2_with fail
      refine bodyPost_ret (results_at2 rfl rfl (setRow_heap _ _ _ _ _ _ D3.out) Try.underlying80 rfl size80b rfl) rfl ?_
      exact ⟨by rw [HR.out]; rfl, below_setRow HB3.out (by omega) _⟩
  · have HR := hid (show res = .tuple #[zeroPose, .int .i64 (checkV m0 m1 m2 m3 n L F)] by rw [HRES.out]; unfold poseAtV; rw [if_pos h1])
    generalize checkV m0 m1 m2 m3 n L F = E at *
    have hd : decide (E = 0) = false := by simp [h1]
    clear HRES
    go_enter Try.func58, Try.ntmps58
    go_wp2_with fail
    refine (HT.out _ (by (repeat' (first | (with_reducible exact Below.refl _ _) | (with_reducible assumption) | (with_reducible refine Below.alloc ?_ ?_ _) | (with_reducible refine Below.drew ?_) | (with_reducible refine below_drewN ?_ _) | (with_reducible refine Below.setCell ?_ ?_ _) | (with_reducible refine below_setRow ?_ ?_ _) | go_size)))).mono ?_
    rintro r w1 ⟨rfl, hb⟩
    have HBw1 := hid (show Below w.heap.size w w1 by have hB0 := HBw.out; refine Below.trans ?_ (hb.mono ?_); (focus ((repeat' (first | (with_reducible exact Below.refl _ _) | (with_reducible assumption) | (with_reducible refine Below.alloc ?_ ?_ _) | (with_reducible refine Below.drew ?_) | (with_reducible refine below_drewN ?_ _) | (with_reducible refine Below.setCell ?_ ?_ _) | (with_reducible refine below_setRow ?_ ?_ _) | go_size)); done)); (focus (first | (simp; done) | (simp; omega) | (have hB1 := hB0.size; simp; omega))))
    have hsw1 := hb.size
    (try simp at hsw1)
    have hzw1 : w.heap.size < w1.heap.size := by omega
    obtain ⟨hcw1, hfw1⟩ := bcell hb
    have hkw1 := hid (fun n x => @heap_still _ _ n x hb)
    clear hb
    have A1 := hid (hkw1.out _ _ (by repeat' (first | (refine heap_alloc_at _ _ _ ?_; (first | rfl | (simp; done) | (simp; omega))) | (refine heap_alloc_past _ _ _ _ ?_))) : w1.heap[w.heap.size]? = some (.cells #[.slice ad n c] 64))
    have M1 := hid (hkw1.out _ _ (by repeat' (first | (refine heap_alloc_at _ _ _ ?_; (first | rfl | (simp; done) | (simp; omega))) | (refine heap_alloc_past _ _ _ _ ?_))) : w1.heap[w.heap.size + 1]? = some (.cells #[.int .i64 m0, .int .i64 m1, .int .i64 m2, .int .i64 m3] 61))
    have D1 := hid (hkw1.out _ _ (by repeat' (first | (refine heap_alloc_at _ _ _ ?_; (first | rfl | (simp; done) | (simp; omega))) | (refine heap_alloc_past _ _ _ _ ?_))) : w1.heap[w.heap.size + 1 + 1]? = some (.cells #[.int .i64 0, .int .i64 0, .int .i64 0, .int .i64 0, .int .i64 0, .int .i64 0, .int .i64 0, .int .i64 0, .int .i64 0, .int .i64 0, .int .i64 0] 80))
    go_wp2_with (refine wpList_store_at rfl 80 (.tmp 6) (.tmp 15) rfl rfl rfl D1.out size80b rfl rfl rfl ?_)
    refine bodyPost_ret (results_at2 rfl rfl (setRow_heap _ _ _ _ _ _ D1.out) Try.underlying80 rfl size80b rfl) rfl ?_
    exact ⟨by rw [HR.out]; rfl, below_setRow HBw1.out (by omega) _⟩
end Go.Proofs.Yteoikaedpgianaa
