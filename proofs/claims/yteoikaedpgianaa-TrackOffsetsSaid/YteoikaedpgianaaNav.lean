/- NavTime: what the program and its reference return, for every row of clocks and every time. -/
import Derived.Test.YteoikaedpgianaaBox
import Derived.Test.YteoikaedpgianaaRec
namespace Go.Proofs.Yteoikaedpgianaa
open Go.RowKit

/-- the first n of them all -/
def allN (p : Nat → Bool) : Nat → Bool
  | 0 => true
  | k + 1 => allN p k && p k
theorem allN_next {p : Nat → Bool} {k : Nat} (h : allN p k = true) (h2 : p k = true) : allN p (k + 1) = true := by simp [allN, h, h2]
theorem allN_stop {p : Nat → Bool} {n k : Nat} (hk : k < n) (h : p k = false) : allN p n = false := by
  induction n with
  | zero => omega
  | succ n ih =>
    by_cases he : k = n
    · subst he; simp [allN, h]
    · simp [allN, ih (by omega)]
theorem allN_iff {p : Nat → Bool} {n : Nat} : allN p n = true ↔ ∀ i, i < n → p i = true := by
  induction n with
  | zero => simp [allN]
  | succ n ih =>
    simp only [allN, Bool.and_eq_true, ih]
    constructor
    · rintro ⟨h1, h2⟩ i hi
      by_cases he : i = n
      · subst he; exact h2
      · exact h1 i (by omega)
    · intro h; exact ⟨fun i hi => h i (by omega), h n (by omega)⟩

/-- a value before: 0 ahead of the first -/
def prevN (f : Nat → Int) (i : Nat) : Int := match i with | 0 => 0 | k + 1 => f k
def navOk (f lo hi : Nat → Int) (i : Nat) : Bool := spanB (lo i) (hi i) && decide (prevN f i ≤ f i)
def atN (f : Nat → Int) (scan : Int) : Nat → Nat
  | 0 => 0
  | k + 1 => if f k ≤ scan then k else atN f scan k
theorem atN_lt {f : Nat → Int} {scan : Int} : ∀ {n : Nat}, 0 < n → atN f scan n < n
  | n + 1, _ => by
    unfold atN
    split
    · omega
    · by_cases h : n = 0
      · subst h; simp [atN]
      · have := @atN_lt f scan n (by omega); omega

def navV (f lo hi : Nat → Int) (n : Nat) (scan : Int) : Int × Int × Int :=
  if n = 0 then (0, 0, 45) else if allN (navOk f lo hi) n = false then (0, 0, 45) else if inB 0 1125899906842624 scan = false then (0, 0, 2) else
  if inB 0 1125899906842624 (scan + lo (atN f scan n)) && inB 0 1125899906842624 (scan + hi (atN f scan n)) then (scan + lo (atN f scan n), scan + hi (atN f scan n), 0) else (0, 0, 3)
def nav3 (x : Int × Int × Int) : Value := .tuple #[.agg #[.int .i64 x.1, .int .i64 x.2.1], .int .i64 x.2.2]

/-- n records of three integers behind an address -/
def recs3 (w : World) (b off n : Nat) (f lo hi : Nat → Int) : Prop :=
  ∀ i, i < n → w.cell? ⟨b, off + i * 3, none⟩ = some (.int .i64 (f i)) ∧ w.cell? ⟨b, off + i * 3 + 1, none⟩ = some (.int .i64 (lo i)) ∧ w.cell? ⟨b, off + i * 3 + 2, none⟩ = some (.int .i64 (hi i))
theorem recs3.still {w w' : World} {b off n B : Nat} {f lo hi : Nat → Int} (h : recs3 w b off n f lo hi) (hb : Below B w w') (hB : b < B) : recs3 w' b off n f lo hi :=
  fun i hi => by rw [hb.cell hB, hb.cell hB, hb.cell hB]; exact h i hi


theorem navV_bad {f lo hi : Nat → Int} {n k : Nat} {scan : Int} (hk : k < n) (h : navOk f lo hi k = false) : navV f lo hi n scan = (0, 0, 45) := by
  unfold navV
  rw [if_neg (by omega), if_pos (allN_stop hk h)]
theorem navV_out {f lo hi : Nat → Int} {n : Nat} {scan : Int} (hn : 0 < n) (h : allN (navOk f lo hi) n = true) (hs : inB 0 1125899906842624 scan = false) : navV f lo hi n scan = (0, 0, 2) := by
  unfold navV
  rw [if_neg (by omega), if_neg (by rw [h]; simp), if_pos hs]
theorem navV_in {f lo hi : Nat → Int} {n : Nat} {scan l u : Int} (hn : 0 < n) (h : allN (navOk f lo hi) n = true) (hs : inB 0 1125899906842624 scan = true) (hl : lo (atN f scan n) = l) (hu : hi (atN f scan n) = u) :
    navV f lo hi n scan = if inB 0 1125899906842624 (scan + l) && inB 0 1125899906842624 (scan + u) then (scan + l, scan + u, 0) else (0, 0, 3) := by
  subst hl hu
  unfold navV
  rw [if_neg (by omega), if_neg (by rw [h]; simp), if_neg (by rw [hs]; simp)]


theorem setRow_past {W : World} {g n : Nat} {x : Obj} {cells : Array Value} (h : W.heap[n]? = some x) (hne : n ≠ g) : (W.setRow g cells).heap[n]? = some x := by
  show (W.heap.modify g _)[n]? = _
  rw [Array.getElem?_modify]
  rw [if_neg (by omega)]; exact h
theorem size99 : (Try.prog.info? 99).map (·.size) = some 3 := by kernel_rfl
set_option maxRecDepth 100000 in
set_option maxHeartbeats 1600000 in
theorem nav_any (scan : Int) (b off n c : Nat) (f lo hi : Nat → Int) (w : World) (hn0 : 0 < n) (hn : n ≤ 40) (hbw : b < w.heap.size) (hc : recs3 w b off n f lo hi) :
    Calls Try.prog 34 #[.slice (some ⟨b, off, none⟩) n c, .int .i64 scan] w fun e w' => e = .returned (nav3 (navV f lo hi n scan)) ∧ Below w.heap.size w w' := by
  have HC := hid hc; clear hc
  have hnz : ((n : Int) == 0) = false := by simp; omega
  go_enter Try.func34, Try.ntmps34
  go_wp2_with fail
  go_loopw [6, 20] (fun last i W => ∃ (k : Nat), k ≤ n ∧ i = .int .i64 k ∧ last = .int .i64 (prevN f k) ∧ allN (navOk f lo hi) k = true ∧ Below w.heap.size w W ∧ w.heap.size < W.heap.size ∧ W.heap[w.heap.size]? = some (.cells #[.int .i64 0, .int .i64 0] 44)) (fun _ i _ => n - (intOf i).toNat)
  case atStart => exact ⟨0, by omega, rfl, rfl, rfl, by (repeat' (first | (with_reducible exact Below.refl _ _) | (with_reducible assumption) | (with_reducible refine Below.alloc ?_ ?_ _) | (with_reducible refine Below.drew ?_) | (with_reducible refine below_drewN ?_ _) | (with_reducible refine Below.setCell ?_ ?_ _) | (with_reducible refine below_setRow ?_ ?_ _) | go_size)), by simp, (by repeat' (first | (refine heap_alloc_at _ _ _ ?_; (first | rfl | (simp; done) | (simp; omega))) | (refine heap_alloc_past _ _ _ _ ?_)))⟩
  case round =>
    obtain ⟨k, hk, rfl, rfl, hall, hB, hsz, h0⟩ := hrel
    have HBwr := hid hB
    have H0 := hid h0
    have HA := hid hall
    by_cases hlt : k < n
    · obtain ⟨c0, c1, c2⟩ := HC.out.still hB hbw k hlt
      have hq : prevN f (k + 1) = f k := rfl
      have HQ := hid hq
      have HN := hid (fun h : navOk f lo hi k = true => allN_next HA.out h)
      have HX := hid (fun h : navOk f lo hi k = false => @navV_bad f lo hi n k scan hlt h)
      have hok : ∀ bb, spanB (lo k) (hi k) = bb → navOk f lo hi k = (bb && decide (prevN f k ≤ f k)) := by intro bb h; rw [← h]; rfl
      have HOK := hid hok
      clear hB h0 hall hok hq
      generalize prevN f k = pk at *
      generalize f k = fk at *
      generalize lo k = lk at *
      generalize hi k = hik at *
      by_cases hs : spanB lk hik = true
      · have HS := hid hs; clear hs
        by_cases hl : fk < pk
        · have HR := hid (HX.out (by rw [HOK.out _ HS.out]; simp; omega))
          go_wp2_with fail
          have G0 := hid (heap_alloc_past wr (.cells #[.int .i64 fk, .int .i64 lk, .int .i64 hik] 99) _ _ H0.out)
          refine (valid_any _ _ _).mono ?_
          rintro r w1 ⟨rfl, hb⟩
          have HBw1 := hid (show Below w.heap.size w w1 by have hB0 := HBwr.out; refine Below.trans ?_ (hb.mono ?_); (focus ((repeat' (first | (with_reducible exact Below.refl _ _) | (with_reducible assumption) | (with_reducible refine Below.alloc ?_ ?_ _) | (with_reducible refine Below.drew ?_) | (with_reducible refine below_drewN ?_ _) | (with_reducible refine Below.setCell ?_ ?_ _) | (with_reducible refine below_setRow ?_ ?_ _) | go_size)); done)); (focus (first | (simp; done) | (simp; omega) | (have hB1 := hB0.size; simp; omega))))
          have hsw1 := hb.size
          (try simp at hsw1)
          have hzw1 : w.heap.size < w1.heap.size := by omega
          obtain ⟨hcw1, hfw1⟩ := bcell hb
          have hkw1 := hid (fun n x => @heap_still _ _ n x hb)
          clear hb
          rw [HS.out]
          have hy1 : wr.heap.size < w1.heap.size := by omega
          go_wp2_with (refine wpList_store_at rfl 44 (.tmp 4) (.tmp 34) rfl rfl rfl (hkw1.out _ _ G0.out) size44 rfl rfl rfl ?_)
          
          (try simp only [Exit.inBlock, Exit.then])
          
          refine bodyPost_ret (results_at2 rfl rfl (setRow_heap _ _ _ _ _ _ (hkw1.out _ _ G0.out)) Try.underlying44 rfl size44 rfl) rfl ?_
          exact ⟨by rw [HR.out]; rfl, below_setRow HBw1.out (by omega) _⟩
        · have HR := hid (HN.out (by rw [HOK.out _ HS.out]; simp; omega))
          go_wp2_with fail
          have G0 := hid (heap_alloc_past wr (.cells #[.int .i64 fk, .int .i64 lk, .int .i64 hik] 99) _ _ H0.out)
          refine (valid_any _ _ _).mono ?_
          rintro r w1 ⟨rfl, hb⟩
          have HBw1 := hid (show Below w.heap.size w w1 by have hB0 := HBwr.out; refine Below.trans ?_ (hb.mono ?_); (focus ((repeat' (first | (with_reducible exact Below.refl _ _) | (with_reducible assumption) | (with_reducible refine Below.alloc ?_ ?_ _) | (with_reducible refine Below.drew ?_) | (with_reducible refine below_drewN ?_ _) | (with_reducible refine Below.setCell ?_ ?_ _) | (with_reducible refine below_setRow ?_ ?_ _) | go_size)); done)); (focus (first | (simp; done) | (simp; omega) | (have hB1 := hB0.size; simp; omega))))
          have hsw1 := hb.size
          (try simp at hsw1)
          have hzw1 : w.heap.size < w1.heap.size := by omega
          obtain ⟨hcw1, hfw1⟩ := bcell hb
          have hkw1 := hid (fun n x => @heap_still _ _ n x hb)
          clear hb
          rw [HS.out]
          have hy1 : wr.heap.size < w1.heap.size := by omega
          go_wp2_with fail
          go_roundw
          case rel => exact ⟨k + 1, by omega, by go_num, by rw [HQ.out], HR.out, HBw1.out, hzw1, hkw1.out _ _ G0.out⟩
          case measure => simp [intOf]; omega
      · have HS := hid (Bool.eq_false_iff.2 hs); clear hs
        have HR := hid (HX.out (by rw [HOK.out _ HS.out]; simp))
        go_wp2_with fail
        have G0 := hid (heap_alloc_past wr (.cells #[.int .i64 fk, .int .i64 lk, .int .i64 hik] 99) _ _ H0.out)
        refine (valid_any _ _ _).mono ?_
        rintro r w1 ⟨rfl, hb⟩
        have HBw1 := hid (show Below w.heap.size w w1 by have hB0 := HBwr.out; refine Below.trans ?_ (hb.mono ?_); (focus ((repeat' (first | (with_reducible exact Below.refl _ _) | (with_reducible assumption) | (with_reducible refine Below.alloc ?_ ?_ _) | (with_reducible refine Below.drew ?_) | (with_reducible refine below_drewN ?_ _) | (with_reducible refine Below.setCell ?_ ?_ _) | (with_reducible refine below_setRow ?_ ?_ _) | go_size)); done)); (focus (first | (simp; done) | (simp; omega) | (have hB1 := hB0.size; simp; omega))))
        have hsw1 := hb.size
        (try simp at hsw1)
        have hzw1 : w.heap.size < w1.heap.size := by omega
        obtain ⟨hcw1, hfw1⟩ := bcell hb
        have hkw1 := hid (fun n x => @heap_still _ _ n x hb)
        clear hb
        rw [HS.out]
        have hy1 : wr.heap.size < w1.heap.size := by omega
        go_wp2_with (refine wpList_store_at rfl 44 (.tmp 4) (.tmp 34) rfl rfl rfl (hkw1.out _ _ G0.out) size44 rfl rfl rfl ?_)
        
        (try simp only [Exit.inBlock, Exit.then])
        
        refine bodyPost_ret (results_at2 rfl rfl (setRow_heap _ _ _ _ _ _ (hkw1.out _ _ G0.out)) Try.underlying44 rfl size44 rfl) rfl ?_
        exact ⟨by rw [HR.out]; rfl, below_setRow HBw1.out (by omega) _⟩
    · obtain rfl : k = n := by omega
      clear hB h0 hall
      by_cases hsc : inB 0 1125899906842624 scan = true
      · have HSC := hid hsc; clear hsc
        have hsb : 0 ≤ scan ∧ scan ≤ 1125899906842624 := by have := HSC.out; simp [inB] at this; exact this
        go_wp2_with fail
        refine (within1 _ _ scan _ _ _ ?_).mono ?_
        focus first | (simp; done) | (simp [go_sem]; done)
        rintro r w1 ⟨rfl, rfl⟩
        rw [HSC.out]
        go_wp2_with fail
        obtain ⟨wo, rfl⟩ : ∃ wo : World, wo = wr := ⟨_, rfl⟩
        go_loopw [9, 45] (fun at_ i W => ∃ (j : Nat), j ≤ k ∧ i = .int .i64 j ∧ at_ = .int .i64 (atN f scan j : Nat) ∧ Below w.heap.size w W ∧ w.heap.size < W.heap.size ∧ W.heap[w.heap.size]? = some (.cells #[.int .i64 0, .int .i64 0] 44)) (fun _ i _ => k - (intOf i).toNat)
        case atStart => exact ⟨0, by omega, rfl, rfl, by (have hB0 := HBwr.out); (repeat' (first | (with_reducible exact Below.refl _ _) | (with_reducible assumption) | (with_reducible refine Below.alloc ?_ ?_ _) | (with_reducible refine Below.drew ?_) | (with_reducible refine below_drewN ?_ _) | (with_reducible refine Below.setCell ?_ ?_ _) | (with_reducible refine below_setRow ?_ ?_ _) | go_size)), by simp; omega, heap_alloc_past _ _ _ _ H0.out⟩
        case round =>
          obtain ⟨j, hj, rfl, rfl, hB, hsz2, h0⟩ := hrel
          have HBws := hid hB
          have H0s := hid h0
          by_cases hlt2 : j < k
          · obtain ⟨c0, c1, c2⟩ := HC.out.still hB hbw j hlt2
            have HAT := hid (show atN f scan (j + 1) = if f j ≤ scan then j else atN f scan j from rfl)
            clear hB h0
            generalize f j = fj at *
            generalize lo j = lj at *
            generalize hi j = hij at *
            generalize atN f scan j = atj at *
            by_cases hf : fj ≤ scan
            · go_wp2_with fail
              go_roundw
              case rel => exact ⟨j + 1, by omega, by go_num, by rw [HAT.out, if_pos hf], by (have hB0 := HBws.out); (repeat' (first | (with_reducible exact Below.refl _ _) | (with_reducible assumption) | (with_reducible refine Below.alloc ?_ ?_ _) | (with_reducible refine Below.drew ?_) | (with_reducible refine below_drewN ?_ _) | (with_reducible refine Below.setCell ?_ ?_ _) | (with_reducible refine below_setRow ?_ ?_ _) | go_size)), by simp; omega, heap_alloc_past _ _ _ _ H0s.out⟩
              case measure => simp [intOf]; omega
            · go_wp2_with fail
              go_roundw
              case rel => exact ⟨j + 1, by omega, by go_num, by rw [HAT.out, if_neg hf], by (have hB0 := HBws.out); (repeat' (first | (with_reducible exact Below.refl _ _) | (with_reducible assumption) | (with_reducible refine Below.alloc ?_ ?_ _) | (with_reducible refine Below.drew ?_) | (with_reducible refine below_drewN ?_ _) | (with_reducible refine Below.setCell ?_ ?_ _) | (with_reducible refine below_setRow ?_ ?_ _) | go_size)), by simp; omega, heap_alloc_past _ _ _ _ H0s.out⟩
              case measure => simp [intOf]; omega
          · obtain rfl : j = k := by omega
            have hat := @atN_lt f scan j hn0
            obtain ⟨c0, c1, c2⟩ := HC.out.still hB hbw _ hat
            have hsp := allN_iff.1 HA.out _ hat
            have HV := hid (fun l u h1 h2 => @navV_in f lo hi j scan l u hn0 HA.out HSC.out h1 h2)
            clear hB h0
            obtain ⟨hL1, hL2, hL3⟩ : -1152921504606846976 ≤ lo (atN f scan j) ∧ lo (atN f scan j) ≤ hi (atN f scan j) ∧ hi (atN f scan j) ≤ 1152921504606846976 := by
              simp [navOk, spanB] at hsp; omega
            clear hsp
            have HVV := hid (HV.out _ _ rfl rfl)
            clear HV
            generalize f (atN f scan j) = fa at *
            generalize lo (atN f scan j) = L at *
            generalize hi (atN f scan j) = U at *
            generalize atN f scan j = atj at *
            by_cases hw : (inB 0 1125899906842624 (scan + L) && inB 0 1125899906842624 (scan + U)) = true
            · have HR := hid (HVV.out.trans (if_pos hw))
              have HW := hid hw
              clear HVV hw
              go_wp2_with fail
              refine (within_any _ _ _ _ _ _ [scan + L, scan + U] _ rfl (by simp) (cells_ints _ (by repeat' (first | (refine heap_alloc_at _ _ _ ?_; (first | rfl | (simp; done) | (simp; omega))) | (refine heap_alloc_past _ _ _ _ ?_))) rfl)).mono ?_
              rintro r w' ⟨rfl, rfl⟩
              rw [show [scan + L, scan + U].all (inB 0 1125899906842624) = true by simpa using HW.out]
              go_wp2_with (refine wpList_store_at rfl 44 (.tmp 4) (.tmp 78) rfl rfl rfl ((by repeat (first | exact H0s.out | refine heap_alloc_past _ _ _ _ ?_))) size44 rfl rfl rfl ?_)
              
              (try simp only [Exit.inBlock, Exit.then])
              
              refine bodyPost_ret (results_at2 rfl rfl (setRow_heap _ _ _ _ _ _ ((by repeat (first | exact H0s.out | refine heap_alloc_past _ _ _ _ ?_)))) Try.underlying44 rfl size44 rfl) rfl ?_
              exact ⟨by rw [HR.out]; rfl, below_setRow (by (have hB0 := HBws.out); (repeat' (first | (with_reducible exact Below.refl _ _) | (with_reducible assumption) | (with_reducible refine Below.alloc ?_ ?_ _) | (with_reducible refine Below.drew ?_) | (with_reducible refine below_drewN ?_ _) | (with_reducible refine Below.setCell ?_ ?_ _) | (with_reducible refine below_setRow ?_ ?_ _) | go_size))) (by omega) _⟩
            · have HR := hid (HVV.out.trans (if_neg hw))
              have HW := hid (Bool.eq_false_iff.2 hw)
              clear HVV hw
              go_wp2_with fail
              refine (within_any _ _ _ _ _ _ [scan + L, scan + U] _ rfl (by simp) (cells_ints _ (by repeat' (first | (refine heap_alloc_at _ _ _ ?_; (first | rfl | (simp; done) | (simp; omega))) | (refine heap_alloc_past _ _ _ _ ?_))) rfl)).mono ?_
              rintro r w' ⟨rfl, rfl⟩
              rw [show [scan + L, scan + U].all (inB 0 1125899906842624) = false by simpa using HW.out]
              go_wp2_with (refine wpList_store_at rfl 44 (.tmp 4) (.tmp 77) rfl rfl rfl ((by repeat (first | exact H0s.out | refine heap_alloc_past _ _ _ _ ?_))) size44 rfl rfl rfl ?_)
              
              (try simp only [Exit.inBlock, Exit.then])
              
              refine bodyPost_ret (results_at2 rfl rfl (setRow_heap _ _ _ _ _ _ ((by repeat (first | exact H0s.out | refine heap_alloc_past _ _ _ _ ?_)))) Try.underlying44 rfl size44 rfl) rfl ?_
              exact ⟨by rw [HR.out]; rfl, below_setRow (by (have hB0 := HBws.out); (repeat' (first | (with_reducible exact Below.refl _ _) | (with_reducible assumption) | (with_reducible refine Below.alloc ?_ ?_ _) | (with_reducible refine Below.drew ?_) | (with_reducible refine below_drewN ?_ _) | (with_reducible refine Below.setCell ?_ ?_ _) | (with_reducible refine below_setRow ?_ ?_ _) | go_size))) (by omega) _⟩
      · have HSC := hid (Bool.eq_false_iff.2 hsc); clear hsc
        go_wp2_with fail
        refine (within1 _ _ scan _ _ _ ?_).mono ?_
        focus first | (simp; done) | (simp [go_sem]; done)
        rintro r w1 ⟨rfl, rfl⟩
        rw [HSC.out]
        go_wp2_with (refine wpList_store_at rfl 44 (.tmp 4) (.tmp 42) rfl rfl rfl (heap_alloc_past _ _ _ _ H0.out) size44 rfl rfl rfl ?_)
        
        (try simp only [Exit.inBlock, Exit.then])
        
        refine bodyPost_ret (results_at2 rfl rfl (setRow_heap _ _ _ _ _ _ (heap_alloc_past _ _ _ _ H0.out)) Try.underlying44 rfl size44 rfl) rfl ?_
        exact ⟨by rw [navV_out hn0 HA.out HSC.out]; rfl, below_setRow (by (have hB0 := HBwr.out); (repeat' (first | (with_reducible exact Below.refl _ _) | (with_reducible assumption) | (with_reducible refine Below.alloc ?_ ?_ _) | (with_reducible refine Below.drew ?_) | (with_reducible refine below_drewN ?_ _) | (with_reducible refine Below.setCell ?_ ?_ _) | (with_reducible refine below_setRow ?_ ?_ _) | go_size))) (by omega) _⟩
set_option maxRecDepth 100000 in
set_option maxHeartbeats 1600000 in
theorem rnav_any (scan : Int) (b off n c : Nat) (f lo hi : Nat → Int) (w : World) (hn0 : 0 < n) (hn : n ≤ 40) (hbw : b < w.heap.size) (hc : recs3 w b off n f lo hi) :
    Calls Try.prog 35 #[.slice (some ⟨b, off, none⟩) n c, .int .i64 scan] w fun e w' => e = .returned (nav3 (navV f lo hi n scan)) ∧ Below w.heap.size w w' := by
  have HC := hid hc; clear hc
  have hnz : ((n : Int) == 0) = false := by simp; omega
  go_enter Try.func35, Try.ntmps35
  go_wp2_with fail
  go_loopw [6, 19] (fun last i W => ∃ (k : Nat), k ≤ n ∧ i = .int .i64 k ∧ last = .int .i64 (prevN f k) ∧ allN (navOk f lo hi) k = true ∧ Below w.heap.size w W ∧ w.heap.size < W.heap.size ∧ W.heap[w.heap.size]? = some (.cells #[.int .i64 0, .int .i64 0] 44)) (fun _ i _ => n - (intOf i).toNat)
  case atStart => exact ⟨0, by omega, rfl, rfl, rfl, by (repeat' (first | (with_reducible exact Below.refl _ _) | (with_reducible assumption) | (with_reducible refine Below.alloc ?_ ?_ _) | (with_reducible refine Below.drew ?_) | (with_reducible refine below_drewN ?_ _) | (with_reducible refine Below.setCell ?_ ?_ _) | (with_reducible refine below_setRow ?_ ?_ _) | go_size)), by simp, (by repeat' (first | (refine heap_alloc_at _ _ _ ?_; (first | rfl | (simp; done) | (simp; omega))) | (refine heap_alloc_past _ _ _ _ ?_)))⟩
  case round =>
    obtain ⟨k, hk, rfl, rfl, hall, hB, hsz, h0⟩ := hrel
    have HBwr := hid hB
    have H0 := hid h0
    have HA := hid hall
    by_cases hlt : k < n
    · obtain ⟨c0, c1, c2⟩ := HC.out.still hB hbw k hlt
      have hq : prevN f (k + 1) = f k := rfl
      have HQ := hid hq
      have HN := hid (fun h : navOk f lo hi k = true => allN_next HA.out h)
      have HX := hid (fun h : navOk f lo hi k = false => @navV_bad f lo hi n k scan hlt h)
      have hok : ∀ bb, spanB (lo k) (hi k) = bb → navOk f lo hi k = (bb && decide (prevN f k ≤ f k)) := by intro bb h; rw [← h]; rfl
      have HOK := hid hok
      clear hB h0 hall hok hq
      generalize prevN f k = pk at *
      generalize f k = fk at *
      generalize lo k = lk at *
      generalize hi k = hik at *
      by_cases hs : spanB lk hik = true
      · have HS := hid hs; clear hs
        by_cases hl : fk < pk
        · have HR := hid (HX.out (by rw [HOK.out _ HS.out]; simp; omega))
          go_wp2_with fail
          have G0 := hid (heap_alloc_past wr (.cells #[.int .i64 fk, .int .i64 lk, .int .i64 hik] 99) _ _ H0.out)
          refine (rvalid_any _ _ _).mono ?_
          rintro r w1 ⟨rfl, hb⟩
          have HBw1 := hid (show Below w.heap.size w w1 by have hB0 := HBwr.out; refine Below.trans ?_ (hb.mono ?_); (focus ((repeat' (first | (with_reducible exact Below.refl _ _) | (with_reducible assumption) | (with_reducible refine Below.alloc ?_ ?_ _) | (with_reducible refine Below.drew ?_) | (with_reducible refine below_drewN ?_ _) | (with_reducible refine Below.setCell ?_ ?_ _) | (with_reducible refine below_setRow ?_ ?_ _) | go_size)); done)); (focus (first | (simp; done) | (simp; omega) | (have hB1 := hB0.size; simp; omega))))
          have hsw1 := hb.size
          (try simp at hsw1)
          have hzw1 : w.heap.size < w1.heap.size := by omega
          obtain ⟨hcw1, hfw1⟩ := bcell hb
          have hkw1 := hid (fun n x => @heap_still _ _ n x hb)
          clear hb
          rw [HS.out]
          have hy1 : wr.heap.size < w1.heap.size := by omega
          go_wp2_with (refine wpList_store_at rfl 44 (.tmp 4) (.tmp 33) rfl rfl rfl (hkw1.out _ _ G0.out) size44 rfl rfl rfl ?_)
          
          (try simp only [Exit.inBlock, Exit.then])
          
          refine bodyPost_ret (results_at2 rfl rfl (setRow_heap _ _ _ _ _ _ (hkw1.out _ _ G0.out)) Try.underlying44 rfl size44 rfl) rfl ?_
          exact ⟨by rw [HR.out]; rfl, below_setRow HBw1.out (by omega) _⟩
        · have HR := hid (HN.out (by rw [HOK.out _ HS.out]; simp; omega))
          go_wp2_with fail
          have G0 := hid (heap_alloc_past wr (.cells #[.int .i64 fk, .int .i64 lk, .int .i64 hik] 99) _ _ H0.out)
          refine (rvalid_any _ _ _).mono ?_
          rintro r w1 ⟨rfl, hb⟩
          have HBw1 := hid (show Below w.heap.size w w1 by have hB0 := HBwr.out; refine Below.trans ?_ (hb.mono ?_); (focus ((repeat' (first | (with_reducible exact Below.refl _ _) | (with_reducible assumption) | (with_reducible refine Below.alloc ?_ ?_ _) | (with_reducible refine Below.drew ?_) | (with_reducible refine below_drewN ?_ _) | (with_reducible refine Below.setCell ?_ ?_ _) | (with_reducible refine below_setRow ?_ ?_ _) | go_size)); done)); (focus (first | (simp; done) | (simp; omega) | (have hB1 := hB0.size; simp; omega))))
          have hsw1 := hb.size
          (try simp at hsw1)
          have hzw1 : w.heap.size < w1.heap.size := by omega
          obtain ⟨hcw1, hfw1⟩ := bcell hb
          have hkw1 := hid (fun n x => @heap_still _ _ n x hb)
          clear hb
          rw [HS.out]
          have hy1 : wr.heap.size < w1.heap.size := by omega
          go_wp2_with fail
          go_roundw
          case rel => exact ⟨k + 1, by omega, by go_num, by rw [HQ.out], HR.out, HBw1.out, hzw1, hkw1.out _ _ G0.out⟩
          case measure => simp [intOf]; omega
      · have HS := hid (Bool.eq_false_iff.2 hs); clear hs
        have HR := hid (HX.out (by rw [HOK.out _ HS.out]; simp))
        go_wp2_with fail
        have G0 := hid (heap_alloc_past wr (.cells #[.int .i64 fk, .int .i64 lk, .int .i64 hik] 99) _ _ H0.out)
        refine (rvalid_any _ _ _).mono ?_
        rintro r w1 ⟨rfl, hb⟩
        have HBw1 := hid (show Below w.heap.size w w1 by have hB0 := HBwr.out; refine Below.trans ?_ (hb.mono ?_); (focus ((repeat' (first | (with_reducible exact Below.refl _ _) | (with_reducible assumption) | (with_reducible refine Below.alloc ?_ ?_ _) | (with_reducible refine Below.drew ?_) | (with_reducible refine below_drewN ?_ _) | (with_reducible refine Below.setCell ?_ ?_ _) | (with_reducible refine below_setRow ?_ ?_ _) | go_size)); done)); (focus (first | (simp; done) | (simp; omega) | (have hB1 := hB0.size; simp; omega))))
        have hsw1 := hb.size
        (try simp at hsw1)
        have hzw1 : w.heap.size < w1.heap.size := by omega
        obtain ⟨hcw1, hfw1⟩ := bcell hb
        have hkw1 := hid (fun n x => @heap_still _ _ n x hb)
        clear hb
        rw [HS.out]
        have hy1 : wr.heap.size < w1.heap.size := by omega
        go_wp2_with (refine wpList_store_at rfl 44 (.tmp 4) (.tmp 33) rfl rfl rfl (hkw1.out _ _ G0.out) size44 rfl rfl rfl ?_)
        
        (try simp only [Exit.inBlock, Exit.then])
        
        refine bodyPost_ret (results_at2 rfl rfl (setRow_heap _ _ _ _ _ _ (hkw1.out _ _ G0.out)) Try.underlying44 rfl size44 rfl) rfl ?_
        exact ⟨by rw [HR.out]; rfl, below_setRow HBw1.out (by omega) _⟩
    · obtain rfl : k = n := by omega
      clear hB h0 hall
      by_cases hsc : inB 0 1125899906842624 scan = true
      · have HSC := hid hsc; clear hsc
        have hsb : 0 ≤ scan ∧ scan ≤ 1125899906842624 := by have := HSC.out; simp [inB] at this; exact this
        go_wp2_with fail
        refine (from_any _ _ _ _).mono ?_
        rintro r w1 ⟨rfl, rfl⟩
        rw [HSC.out]
        obtain ⟨z0, z1, z2⟩ := HC.out.still HBwr.out hbw 0 hn0
        simp only [Nat.zero_mul, Nat.add_zero] at z0 z1 z2
        go_wp2_with fail
        clear z0 z1 z2
        obtain ⟨wo, rfl⟩ : ∃ wo : World, wo = wr := ⟨_, rfl⟩
        go_loopw [46] (fun i W => ∃ (j : Nat), j ≤ k ∧ i = .int .i64 j ∧ Below w.heap.size w W ∧ w.heap.size < W.heap.size ∧ W.heap[w.heap.size]? = some (.cells #[.int .i64 0, .int .i64 0] 44) ∧ wo.heap.size < W.heap.size ∧ W.heap[wo.heap.size]? = some (.cells #[.int .i64 (f (atN f scan j)), .int .i64 (lo (atN f scan j)), .int .i64 (hi (atN f scan j))] 99)) (fun i _ => k - (intOf i).toNat)
        case atStart => exact ⟨0, by omega, rfl, by (have hB0 := HBwr.out); (repeat' (first | (with_reducible exact Below.refl _ _) | (with_reducible assumption) | (with_reducible refine Below.alloc ?_ ?_ _) | (with_reducible refine Below.drew ?_) | (with_reducible refine below_drewN ?_ _) | (with_reducible refine Below.setCell ?_ ?_ _) | (with_reducible refine below_setRow ?_ ?_ _) | go_size)), by simp; omega, heap_alloc_past _ _ _ _ H0.out, by simp, (by repeat' (first | (refine heap_alloc_at _ _ _ ?_; (first | rfl | (simp; done) | (simp; omega))) | (refine heap_alloc_past _ _ _ _ ?_)))⟩
        case round =>
          obtain ⟨j, hj, rfl, hB, hsz2, h0, hsz3, h9⟩ := hrel
          have HBws := hid hB
          have H0s := hid h0
          have H9s := hid h9
          by_cases hlt2 : j < k
          · obtain ⟨c0, c1, c2⟩ := HC.out.still hB hbw j hlt2
            have HAT := hid (show atN f scan (j + 1) = if f j ≤ scan then j else atN f scan j from rfl)
            clear hB h0 h9
            by_cases hf : f j ≤ scan
            · have HJ := hid (HAT.out.trans (if_pos hf))
              clear HAT
              go_wp2_with (refine wpList_store_at rfl 99 (.tmp 9) (.tmp 54) rfl rfl rfl (heap_alloc_past _ _ _ _ H9s.out) size99 rfl rfl rfl ?_)

              go_roundw
              case rel => exact ⟨j + 1, by omega, by go_num, below_setRow (by (have hB0 := HBws.out); (repeat' (first | (with_reducible exact Below.refl _ _) | (with_reducible assumption) | (with_reducible refine Below.alloc ?_ ?_ _) | (with_reducible refine Below.drew ?_) | (with_reducible refine below_drewN ?_ _) | (with_reducible refine Below.setCell ?_ ?_ _) | (with_reducible refine below_setRow ?_ ?_ _) | go_size))) (by omega) _, by simp; omega, setRow_past (heap_alloc_past _ _ _ _ H0s.out) (by omega), by simp; omega, by rw [HJ.out]; exact setRow_heap _ _ _ _ _ _ (heap_alloc_past _ _ _ _ H9s.out)⟩
              case measure => simp [intOf]; omega
            · have HJ := hid (HAT.out.trans (if_neg hf))
              clear HAT
              go_wp2_with fail
              go_roundw
              case rel => exact ⟨j + 1, by omega, by go_num, by (have hB0 := HBws.out); (repeat' (first | (with_reducible exact Below.refl _ _) | (with_reducible assumption) | (with_reducible refine Below.alloc ?_ ?_ _) | (with_reducible refine Below.drew ?_) | (with_reducible refine below_drewN ?_ _) | (with_reducible refine Below.setCell ?_ ?_ _) | (with_reducible refine below_setRow ?_ ?_ _) | go_size)), by simp; omega, heap_alloc_past _ _ _ _ H0s.out, by simp; omega, by rw [HJ.out]; exact heap_alloc_past _ _ _ _ H9s.out⟩
              case measure => simp [intOf]; omega
          · obtain rfl : j = k := by omega
            have hat := @atN_lt f scan j hn0
            have hsp := allN_iff.1 HA.out _ hat
            have HV := hid (fun l u h1 h2 => @navV_in f lo hi j scan l u hn0 HA.out HSC.out h1 h2)
            clear hB h0 h9
            obtain ⟨hL1, hL2, hL3⟩ : -1152921504606846976 ≤ lo (atN f scan j) ∧ lo (atN f scan j) ≤ hi (atN f scan j) ∧ hi (atN f scan j) ≤ 1152921504606846976 := by
              simp [navOk, spanB] at hsp; omega
            clear hsp
            have HVV := hid (HV.out _ _ rfl rfl)
            clear HV
            generalize f (atN f scan j) = fa at *
            generalize lo (atN f scan j) = L at *
            generalize hi (atN f scan j) = U at *
            generalize atN f scan j = atj at *
            have c0 : wr.cell? ⟨wo.heap.size, 0, none⟩ = some (.int .i64 fa) := (cell_row (j := 0) H9s.out).trans rfl
            have c1 : wr.cell? ⟨wo.heap.size, 1, none⟩ = some (.int .i64 L) := (cell_row (j := 1) H9s.out).trans rfl
            have c2 : wr.cell? ⟨wo.heap.size, 2, none⟩ = some (.int .i64 U) := (cell_row (j := 2) H9s.out).trans rfl
            by_cases hw : (inB 0 1125899906842624 (scan + L) && inB 0 1125899906842624 (scan + U)) = true
            · have HR := hid (HVV.out.trans (if_pos hw))
              simp [inB] at hw
              have hg1 : ¬ scan + L < 0 := by omega
              have hg2 : ¬ scan + U > 1125899906842624 := by omega
              clear HVV hw
              go_wp2_with (refine wpList_store_at rfl 44 (.tmp 4) (.tmp 76) rfl rfl rfl (heap_alloc_past _ _ _ _ H0s.out) size44 rfl rfl rfl ?_)
              
              (try simp only [Exit.inBlock, Exit.then])
              
              refine bodyPost_ret (results_at2 rfl rfl (setRow_heap _ _ _ _ _ _ (heap_alloc_past _ _ _ _ H0s.out)) Try.underlying44 rfl size44 rfl) rfl ?_
              exact ⟨by rw [HR.out]; rfl, below_setRow (by (have hB0 := HBws.out); (repeat' (first | (with_reducible exact Below.refl _ _) | (with_reducible assumption) | (with_reducible refine Below.alloc ?_ ?_ _) | (with_reducible refine Below.drew ?_) | (with_reducible refine below_drewN ?_ _) | (with_reducible refine Below.setCell ?_ ?_ _) | (with_reducible refine below_setRow ?_ ?_ _) | go_size))) (by omega) _⟩
            · have HR := hid (HVV.out.trans (if_neg hw))
              simp [inB] at hw
              clear HVV
              by_cases hg1 : scan + L < 0
              · clear hw
                go_wp2_with (refine wpList_store_at rfl 44 (.tmp 4) (.tmp 75) rfl rfl rfl (heap_alloc_past _ _ _ _ H0s.out) size44 rfl rfl rfl ?_)
                
                (try simp only [Exit.inBlock, Exit.then])
                
                refine bodyPost_ret (results_at2 rfl rfl (setRow_heap _ _ _ _ _ _ (heap_alloc_past _ _ _ _ H0s.out)) Try.underlying44 rfl size44 rfl) rfl ?_
                exact ⟨by rw [HR.out]; rfl, below_setRow (by (have hB0 := HBws.out); (repeat' (first | (with_reducible exact Below.refl _ _) | (with_reducible assumption) | (with_reducible refine Below.alloc ?_ ?_ _) | (with_reducible refine Below.drew ?_) | (with_reducible refine below_drewN ?_ _) | (with_reducible refine Below.setCell ?_ ?_ _) | (with_reducible refine below_setRow ?_ ?_ _) | go_size))) (by omega) _⟩
              · have hg2 : scan + U > 1125899906842624 := by omega
                clear hw
                go_wp2_with (refine wpList_store_at rfl 44 (.tmp 4) (.tmp 75) rfl rfl rfl (heap_alloc_past _ _ _ _ H0s.out) size44 rfl rfl rfl ?_)
                
                (try simp only [Exit.inBlock, Exit.then])
                
                refine bodyPost_ret (results_at2 rfl rfl (setRow_heap _ _ _ _ _ _ (heap_alloc_past _ _ _ _ H0s.out)) Try.underlying44 rfl size44 rfl) rfl ?_
                exact ⟨by rw [HR.out]; rfl, below_setRow (by (have hB0 := HBws.out); (repeat' (first | (with_reducible exact Below.refl _ _) | (with_reducible assumption) | (with_reducible refine Below.alloc ?_ ?_ _) | (with_reducible refine Below.drew ?_) | (with_reducible refine below_drewN ?_ _) | (with_reducible refine Below.setCell ?_ ?_ _) | (with_reducible refine below_setRow ?_ ?_ _) | go_size))) (by omega) _⟩
      · have HSC := hid (Bool.eq_false_iff.2 hsc); clear hsc
        go_wp2_with fail
        refine (from_any _ _ _ _).mono ?_
        rintro r w1 ⟨rfl, rfl⟩
        rw [HSC.out]
        go_wp2_with (refine wpList_store_at rfl 44 (.tmp 4) (.tmp 40) rfl rfl rfl (H0.out) size44 rfl rfl rfl ?_)
        
        (try simp only [Exit.inBlock, Exit.then])
        
        refine bodyPost_ret (results_at2 rfl rfl (setRow_heap _ _ _ _ _ _ (H0.out)) Try.underlying44 rfl size44 rfl) rfl ?_
        exact ⟨by rw [navV_out hn0 HA.out HSC.out]; rfl, below_setRow (by (have hB0 := HBwr.out); (repeat' (first | (with_reducible exact Below.refl _ _) | (with_reducible assumption) | (with_reducible refine Below.alloc ?_ ?_ _) | (with_reducible refine Below.drew ?_) | (with_reducible refine below_drewN ?_ _) | (with_reducible refine Below.setCell ?_ ?_ _) | (with_reducible refine below_setRow ?_ ?_ _) | go_size))) (by omega) _⟩

theorem nav_none (scan : Int) (a : Option Addr) (c : Nat) (w : World) :
    Calls Try.prog 34 #[.slice a 0 c, .int .i64 scan] w fun e w' => e = .returned (nav3 (0, 0, 45)) ∧ Below w.heap.size w w' := by
  go_enter Try.func34, Try.ntmps34
  go_wp2_with (refine wpList_store_at rfl 44 (.tmp 4) (.tmp 17) rfl rfl rfl ((by repeat' (first | (refine heap_alloc_at _ _ _ ?_; (first | rfl | (simp; done) | (simp; omega))) | (refine heap_alloc_past _ _ _ _ ?_)))) size44 rfl rfl rfl ?_)
  
  (try simp only [Exit.inBlock, Exit.then])
  
  refine bodyPost_ret (results_at2 rfl rfl (setRow_heap _ _ _ _ _ _ ((by repeat' (first | (refine heap_alloc_at _ _ _ ?_; (first | rfl | (simp; done) | (simp; omega))) | (refine heap_alloc_past _ _ _ _ ?_))))) Try.underlying44 rfl size44 rfl) rfl ?_
  exact ⟨rfl, below_setRow (by (repeat' (first | (with_reducible exact Below.refl _ _) | (with_reducible assumption) | (with_reducible refine Below.alloc ?_ ?_ _) | (with_reducible refine Below.drew ?_) | (with_reducible refine below_drewN ?_ _) | (with_reducible refine Below.setCell ?_ ?_ _) | (with_reducible refine below_setRow ?_ ?_ _) | go_size))) (by omega) _⟩
theorem rnav_none (scan : Int) (a : Option Addr) (c : Nat) (w : World) :
    Calls Try.prog 35 #[.slice a 0 c, .int .i64 scan] w fun e w' => e = .returned (nav3 (0, 0, 45)) ∧ Below w.heap.size w w' := by
  go_enter Try.func35, Try.ntmps35
  go_wp2_with (refine wpList_store_at rfl 44 (.tmp 4) (.tmp 16) rfl rfl rfl ((by repeat' (first | (refine heap_alloc_at _ _ _ ?_; (first | rfl | (simp; done) | (simp; omega))) | (refine heap_alloc_past _ _ _ _ ?_)))) size44 rfl rfl rfl ?_)
  
  (try simp only [Exit.inBlock, Exit.then])
  
  refine bodyPost_ret (results_at2 rfl rfl (setRow_heap _ _ _ _ _ _ ((by repeat' (first | (refine heap_alloc_at _ _ _ ?_; (first | rfl | (simp; done) | (simp; omega))) | (refine heap_alloc_past _ _ _ _ ?_))))) Try.underlying44 rfl size44 rfl) rfl ?_
  exact ⟨rfl, below_setRow (by (repeat' (first | (with_reducible exact Below.refl _ _) | (with_reducible assumption) | (with_reducible refine Below.alloc ?_ ?_ _) | (with_reducible refine Below.drew ?_) | (with_reducible refine below_drewN ?_ _) | (with_reducible refine Below.setCell ?_ ?_ _) | (with_reducible refine below_setRow ?_ ?_ _) | go_size))) (by omega) _⟩
theorem flat44 : flatOf Try.prog 10 44 = some [some .i64, some .i64] := by kernel_rfl
theorem eq44 (a b c d : Int) (W : World) : (Op.equalIn 10000 44 (.agg #[.int .i64 a, .int .i64 b]) (.agg #[.int .i64 c, .int .i64 d])).run Try.prog W = .ok ([a, b] == [c, d]) W := by
  rw [equal_struct Try.underlying44 flat44 [.int .i64 a, .int .i64 b] [.int .i64 c, .int .i64 d] rfl rfl W]
  exact congrArg (fun b => Result.ok b W) (sameL_ints (a := [a, b]) (b := [c, d]) rfl)

theorem fit3 {cs : List Value} (h : fitsW [some .i64, some .i64, some .i64] cs) : ∃ a b c : Int, cs = [.int .i64 a, .int .i64 b, .int .i64 c] := by
  obtain ⟨a, _, rfl, _, h⟩ := fits_int h
  obtain ⟨b, _, rfl, _, h⟩ := fits_int h
  obtain ⟨c, _, rfl, _, h⟩ := fits_int h
  obtain rfl := fits_nil h
  exact ⟨a, b, c, rfl⟩
theorem rows3 {w : World} {b off n : Nat} (h : rows w b off 3 n [some .i64, some .i64, some .i64]) : ∃ f lo hi : Nat → Int, recs3 w b off n f lo hi := by
  have each : ∀ i, i < n → ∃ q : Int × Int × Int, w.cell? ⟨b, off + i * 3, none⟩ = some (.int .i64 q.1) ∧ w.cell? ⟨b, off + i * 3 + 1, none⟩ = some (.int .i64 q.2.1) ∧ w.cell? ⟨b, off + i * 3 + 2, none⟩ = some (.int .i64 q.2.2) := by
    intro i hi
    obtain ⟨cs, hf, hc⟩ := h i hi
    obtain ⟨x, y, z, rfl⟩ := fit3 hf
    exact ⟨(x, y, z), hc 0 _ rfl, hc 1 _ rfl, hc 2 _ rfl⟩
  obtain ⟨q, hq⟩ := Go.Deep.choose_lt each
  exact ⟨fun i => (q i).1, fun i => (q i).2.1, fun i => (q i).2.2, hq⟩
theorem flat99 : flatOf Try.prog 10 99 = some [some .i64, some .i64, some .i64] := by kernel_rfl
end Go.Proofs.Yteoikaedpgianaa
