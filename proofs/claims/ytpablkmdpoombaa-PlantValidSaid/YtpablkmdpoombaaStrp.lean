/- Strip data: heavy 17, plain 50, ValidStrip 16 and 20. (Printed by wip/gen_strip.py.) -/
import Derived.Test.YtpablkmdpoombaaCfg
import Derived.Test.YtpablkmdpoombaaNvB
namespace Go.Proofs.Ytpablkmdpoombaa
open Go.RowKit Go.Maps

/-- a numbered pulse and a navigation record, as they lie in memory -/
structure Nb where
  sq : Int
  tm : Int
  q0 : Int
  q1 : Int
  q2 : Int
  q3 : Int
  sv : Value
  S : List Int
def Nb.row (p : Nb) : List Value := [.int .i64 p.sq, .int .i64 p.tm, .int .i64 p.q0, .int .i64 p.q1, .int .i64 p.q2, .int .i64 p.q3, p.sv]
structure Nv where
  is : Bool
  ft : Int
  fx : Int
  fy : Int
  fz : Int
  fe : Int
  fa : Int
  fb : Int
  fc : Int
  fd : Int
  fg : Int
  s0 : Int
  s1 : Int
  s2 : Int
def Nv.row (p : Nv) : List Value := [.bool p.is, .int .i64 p.ft, .int .i64 p.fx, .int .i64 p.fy, .int .i64 p.fz, .int .i64 p.fe, .int .i64 p.fa, .int .i64 p.fb, .int .i64 p.fc, .int .i64 p.fd, .int .i64 p.fg, .int .i64 p.s0, .int .i64 p.s1, .int .i64 p.s2]
def nbB (p : Nb) : Bool := inB 0 4294967295 p.sq && pulB p.tm p.q0 p.q1 p.q2 p.q3 p.S
def navB (is : Bool) (ft fx fy fz fe fa fb fc fd fg s0 s1 s2 : Int) : Bool := if is then syncB s0 s1 s2 && (ten ft fx fy fz fe fa fb fc fd fg == ten 0 0 0 0 0 0 0 0 0 0) else fixB ft fx fy fz fe fa fb fc fd fg && ([s0, s1, s2] == [0, 0, 0])
def nvB (p : Nv) : Bool := navB p.is p.ft p.fx p.fy p.fz p.fe p.fa p.fb p.fc p.fd p.fg p.s0 p.s1 p.s2
def sqA (P : List Nb) (j : Nat) (_ : Nat) : Int := match P[j]? with | some p => p.sq | none => 0
def okA (P : List Nb) (i : Nat) : Bool := (match P[i]? with | some p => nbB p | none => false) && !(List.range i).any (fun j => sqA P j 0 == sqA P i 0)
def strB (P : List Nb) (N : List Nv) : Bool := decide (P.length ≤ 256) && decide (N.length ≤ 4096) && allN (okA P) P.length && N.all nvB
structure StV (W : World) (pv : Value) (P : List Nb) (nv : Value) (N : List Nv) : Prop where
  p : ∃ a cap, pv = .slice a P.length cap ∧ (P = [] ∨ ∃ b off, a = some ⟨b, off, none⟩ ∧ b < W.heap.size ∧ RowsAt W b off 7 (P.map Nb.row))
  n : ∃ a cap, nv = .slice a N.length cap ∧ (N = [] ∨ ∃ b off, a = some ⟨b, off, none⟩ ∧ b < W.heap.size ∧ RowsAt W b off 14 (N.map Nv.row))
  s : ∀ p ∈ P, IntsV W p.sv p.S
  sl : ∀ p ∈ P, p.S.length ≤ maxLen
  pl : P.length ≤ maxLen
  nl : N.length ≤ maxLen
theorem StV.still {W W' : World} {pv nv : Value} {P : List Nb} {N : List Nv} (h : StV W pv P nv N) (hb : Below W.heap.size W W') : StV W' pv P nv N := by
  refine ⟨?_, ?_, fun p hp => (h.s p hp).still hb, h.sl, h.pl, h.nl⟩
  · obtain ⟨a, c, h1, h2⟩ := h.p
    exact ⟨a, c, h1, h2.imp id (fun ⟨b, off, h3, h4, h5⟩ => ⟨b, off, h3, Nat.lt_of_lt_of_le h4 hb.size, h5.still hb h4⟩)⟩
  · obtain ⟨a, c, h1, h2⟩ := h.n
    exact ⟨a, c, h1, h2.imp id (fun ⟨b, off, h3, h4, h5⟩ => ⟨b, off, h3, Nat.lt_of_lt_of_le h4 hb.size, h5.still hb h4⟩)⟩
theorem nav_all_next {N : List Nv} {i : Nat} {p : Nv} (hp : N[i]? = some p) (h1 : nvB p = true) (h : (N.take i).all nvB = true) : (N.take (i + 1)).all nvB = true := by
  rw [take_next hp, List.all_append, h]
  simp [h1]
theorem nav_all_stop {N : List Nv} {i : Nat} {p : Nv} (hp : N[i]? = some p) (h1 : nvB p = false) : N.all nvB = false := by
  rw [List.all_eq_false]
  exact ⟨p, List.mem_of_getElem? hp, by simp [h1]⟩
theorem okA_at {P : List Nb} {i : Nat} {p : Nb} (hp : P[i]? = some p) : okA P i = (nbB p && !(List.range i).any (fun j => sqA P j 0 == p.sq)) := by
  unfold okA
  rw [hp]
  simp only [show sqA P i 0 = p.sq by unfold sqA; rw [hp]]
theorem sqA_at {P : List Nb} {i : Nat} {p : Nb} (hp : P[i]? = some p) : sqA P i 0 = p.sq := by unfold sqA; rw [hp]
theorem strB_wideP {P : List Nb} {N : List Nv} (h : 256 < P.length) : strB P N = false := by unfold strB; rw [decide_eq_false (by omega)]; rfl
theorem strB_wideN {P : List Nb} {N : List Nv} (h : 4096 < N.length) : strB P N = false := by unfold strB; rw [decide_eq_false (p := N.length ≤ 4096) (by omega)]; simp
theorem strB_p {P : List Nb} {N : List Nv} {i : Nat} (hi : i < P.length) (h : okA P i = false) : strB P N = false := by unfold strB; rw [allN_stop hi h]; simp
theorem strB_n {P : List Nb} {N : List Nv} (h : N.all nvB = false) : strB P N = false := by unfold strB; rw [h]; simp
theorem strB_ok {P : List Nb} {N : List Nv} (h1 : P.length ≤ 256) (h2 : N.length ≤ 4096) (h3 : allN (okA P) P.length = true) (h4 : N.all nvB = true) : strB P N = true := by unfold strB; rw [decide_eq_true h1, decide_eq_true h2, h3, h4]; rfl
theorem sz38 : (Try.prog.info? 38).map (·.size) = some (List.replicate 6 (Value.int .i64 0)).length := by kernel_rfl
theorem sz43 : (Try.prog.info? 43).map (·.size) = some [Value.int .i64 0, Value.int .i64 0, Value.int .i64 0].length := by kernel_rfl
theorem sz41 : (Try.prog.info? 41).map (·.size) = some (List.replicate 10 (Value.int .i64 0)).length := by kernel_rfl
set_option maxRecDepth 100000 in
set_option maxHeartbeats 800000 in
theorem xplain_any (is : Bool) (ft fx fy fz fe fa fb fc fd fg s0 s1 s2 : Int) (w : World) :
    Calls Try.prog 50 #[.agg #[.bool is, .int .i64 ft, .int .i64 fx, .int .i64 fy, .int .i64 fz, .int .i64 fe, .int .i64 fa, .int .i64 fb, .int .i64 fc, .int .i64 fd, .int .i64 fg, .int .i64 s0, .int .i64 s1, .int .i64 s2]] w fun r w' => r = .returned (.bool (navB is ft fx fy fz fe fa fb fc fd fg s0 s1 s2)) ∧ Below w.heap.size w w' := by
  cases is
  · have hq := eq57 s0 s1 s2 0 0 0
    cases h1 : fixB ft fx fy fz fe fa fb fc fd fg
    · have HS := hid (show navB false ft fx fy fz fe fa fb fc fd fg s0 s1 s2 = false by simp [navB, h1])
      have H1 := hid h1
      clear h1
      go_enter Try.func50, Try.ntmps50
      go_wp2_with fail
      refine (xFix_any _ _ _ _ _ _ _ _ _ _ _).mono ?_
      rintro r w1 ⟨rfl, hb⟩
      rw [H1.out]
      go_wp2_with fail
      go_ret
      exact ⟨by rw [HS.out]; rfl, ((Below.refl _ _).alloc (Nat.le_refl _) _).trans (hb.mono (by simp))⟩
    · have HS := hid (show navB false ft fx fy fz fe fa fb fc fd fg s0 s1 s2 = ([s0, s1, s2] == [0, 0, 0]) by simp [navB, h1])
      have H1 := hid h1
      clear h1
      generalize ([s0, s1, s2] == [0, 0, 0]) = eb at *
      go_enter Try.func50, Try.ntmps50
      go_wp2_with fail
      refine (xFix_any _ _ _ _ _ _ _ _ _ _ _).mono ?_
      rintro r w1 ⟨rfl, hb⟩
      rw [H1.out]
      have KP := hid (heap_still hb (heap_alloc_at w (.cells #[.bool false, .int .i64 ft, .int .i64 fx, .int .i64 fy, .int .i64 fz, .int .i64 fe, .int .i64 fa, .int .i64 fb, .int .i64 fc, .int .i64 fd, .int .i64 fg, .int .i64 s0, .int .i64 s1, .int .i64 s2] 45) _ rfl))
      have HB1 := hid (show Below w.heap.size w w1 from ((Below.refl _ _).alloc (Nat.le_refl _) _).trans (hb.mono (by simp)))
      clear hb
      have q11 : w1.cell? ⟨w.heap.size, 11, none⟩ = some (.int .i64 s0) := (cell_row (j := 11) KP.out).trans rfl
      have q12 : w1.cell? ⟨w.heap.size, 12, none⟩ = some (.int .i64 s1) := (cell_row (j := 12) KP.out).trans rfl
      have q13 : w1.cell? ⟨w.heap.size, 13, none⟩ = some (.int .i64 s2) := (cell_row (j := 13) KP.out).trans rfl
      go_wp2_with fail
      go_ret
      exact ⟨by rw [HS.out]; rfl, HB1.out⟩
  · have hq := eq55 ft fx fy fz fe fa fb fc fd fg 0 0 0 0 0 0 0 0 0 0
    cases h1 : syncB s0 s1 s2
    · have HS := hid (show navB true ft fx fy fz fe fa fb fc fd fg s0 s1 s2 = false by simp [navB, h1])
      have H1 := hid h1
      clear h1
      go_enter Try.func50, Try.ntmps50
      go_wp2_with fail
      refine (xSync_any _ _ _ _).mono ?_
      rintro r w1 ⟨rfl, hb⟩
      rw [H1.out]
      go_wp2_with fail
      go_ret
      exact ⟨by rw [HS.out]; rfl, ((Below.refl _ _).alloc (Nat.le_refl _) _).trans (hb.mono (by simp))⟩
    · have HS := hid (show navB true ft fx fy fz fe fa fb fc fd fg s0 s1 s2 = (ten ft fx fy fz fe fa fb fc fd fg == ten 0 0 0 0 0 0 0 0 0 0) by simp [navB, h1])
      have H1 := hid h1
      clear h1
      generalize (ten ft fx fy fz fe fa fb fc fd fg == ten 0 0 0 0 0 0 0 0 0 0) = eb at *
      go_enter Try.func50, Try.ntmps50
      go_wp2_with fail
      refine (xSync_any _ _ _ _).mono ?_
      rintro r w1 ⟨rfl, hb⟩
      rw [H1.out]
      have KP := hid (heap_still hb (heap_alloc_at w (.cells #[.bool true, .int .i64 ft, .int .i64 fx, .int .i64 fy, .int .i64 fz, .int .i64 fe, .int .i64 fa, .int .i64 fb, .int .i64 fc, .int .i64 fd, .int .i64 fg, .int .i64 s0, .int .i64 s1, .int .i64 s2] 45) _ rfl))
      have HB1 := hid (show Below w.heap.size w w1 from ((Below.refl _ _).alloc (Nat.le_refl _) _).trans (hb.mono (by simp)))
      clear hb
      have q1 : w1.cell? ⟨w.heap.size, 1, none⟩ = some (.int .i64 ft) := (cell_row (j := 1) KP.out).trans rfl
      have q2 : w1.cell? ⟨w.heap.size, 2, none⟩ = some (.int .i64 fx) := (cell_row (j := 2) KP.out).trans rfl
      have q3 : w1.cell? ⟨w.heap.size, 3, none⟩ = some (.int .i64 fy) := (cell_row (j := 3) KP.out).trans rfl
      have q4 : w1.cell? ⟨w.heap.size, 4, none⟩ = some (.int .i64 fz) := (cell_row (j := 4) KP.out).trans rfl
      have q5 : w1.cell? ⟨w.heap.size, 5, none⟩ = some (.int .i64 fe) := (cell_row (j := 5) KP.out).trans rfl
      have q6 : w1.cell? ⟨w.heap.size, 6, none⟩ = some (.int .i64 fa) := (cell_row (j := 6) KP.out).trans rfl
      have q7 : w1.cell? ⟨w.heap.size, 7, none⟩ = some (.int .i64 fb) := (cell_row (j := 7) KP.out).trans rfl
      have q8 : w1.cell? ⟨w.heap.size, 8, none⟩ = some (.int .i64 fc) := (cell_row (j := 8) KP.out).trans rfl
      have q9 : w1.cell? ⟨w.heap.size, 9, none⟩ = some (.int .i64 fd) := (cell_row (j := 9) KP.out).trans rfl
      have q10 : w1.cell? ⟨w.heap.size, 10, none⟩ = some (.int .i64 fg) := (cell_row (j := 10) KP.out).trans rfl
      go_wp2_with fail
      go_ret
      exact ⟨by rw [HS.out]; rfl, HB1.out⟩
/-- what the reference's Encode says of a record -/
theorem rnav_any (is : Bool) (ft fx fy fz fe fa fb fc fd fg s0 s1 s2 : Int) (w : World) :
    Calls Try.prog 59 #[.agg #[.bool is, .int .i64 ft, .int .i64 fx, .int .i64 fy, .int .i64 fz, .int .i64 fe, .int .i64 fa, .int .i64 fb, .int .i64 fc, .int .i64 fd, .int .i64 fg, .int .i64 s0, .int .i64 s1, .int .i64 s2]] w fun r w' => (∃ v er, r = .returned (.tuple #[v, .int .i64 er]) ∧ (er != 0) = !navB is ft fx fy fz fe fa fb fc fd fg s0 s1 s2) ∧ Below w.heap.size w w' := by
  cases is
  · cases h1 : fixB ft fx fy fz fe fa fb fc fd fg
    · refine (rEncodeFix_no _ _ _ _ _ _ _ _ _ _ _ _ _ _ h1).mono ?_
      rintro r w1 ⟨⟨v, hv, _, _⟩, hb⟩
      exact ⟨⟨v, _, hv, by simp [navB, h1]⟩, hb⟩
    · cases h2 : ([s0, s1, s2] == [0, 0, 0])
      · refine (rEncodeFix_off _ _ _ _ _ _ _ _ _ _ _ _ _ _ h1 h2).mono ?_
        rintro r w1 ⟨⟨v, hv, _, _⟩, hb⟩
        exact ⟨⟨v, _, hv, by unfold navB; rw [h1, h2]; rfl⟩, hb⟩
      · refine (rEncodeFix_yes _ _ _ _ _ _ _ _ _ _ _ _ _ _ h1 h2).mono ?_
        rintro r w1 ⟨⟨v, hv, _, _⟩, hb⟩
        exact ⟨⟨v, _, hv, by unfold navB; rw [h1, h2]; rfl⟩, hb⟩
  · refine (rEncodeSync _ _ _ _ _ _ _ _ _ _ _ _ _ _).mono ?_
    rintro r w1 ⟨⟨v, hv, _, _⟩, hb⟩
    refine ⟨⟨v, _, hv, ?_⟩, hb⟩
    unfold navB
    cases h1 : syncB s0 s1 s2
    · rfl
    · cases h2 : (ten ft fx fy fz fe fa fb fc fd fg == ten 0 0 0 0 0 0 0 0 0 0) <;> simp
set_option maxRecDepth 100000 in
set_option maxHeartbeats 3200000 in
theorem xstrip_any (pv nv : Value) (P : List Nb) (N : List Nv) (w : World) (h : StV w pv P nv N) :
    Calls Try.prog 16 #[.agg #[pv, nv]] w fun r w' => r = .returned (.bool (strB P N)) ∧ Below w.heap.size w w' := by
  obtain ⟨⟨pa, pc, rfl, hpr⟩, ⟨na, nc, rfl, hnr⟩, hs, hsl, hpl, hnl⟩ := h
  obtain ⟨sv, hsv⟩ : ∃ sv, sv = strB P N := ⟨_, rfl⟩
  rw [← hsv]
  have HSV := hid hsv
  have HPR := hid hpr
  have HNR := hid hnr
  have HS := hid hs
  have HSL := hid hsl
  obtain ⟨n, hn⟩ : ∃ n, n = P.length := ⟨_, rfl⟩
  obtain ⟨m, hm⟩ : ∃ m, m = N.length := ⟨_, rfl⟩
  rw [← hn] at hpl ⊢
  rw [← hm] at hnl ⊢
  have hn' : n ≤ 9223372036854775807 := by unfold maxLen at hpl; omega
  have hm' : m ≤ 9223372036854775807 := by unfold maxLen at hnl; omega
  have HN := hid hn
  have HM := hid hm
  clear hsv hpr hnr hs hsl hn hm hpl hnl
  by_cases h1 : 256 < n
  · have e1 : decide ((256 : Int) < (n : Int)) = true := decide_eq_true (by omega)
    have HF := hid (show sv = false by rw [HSV.out]; exact strB_wideP (by rw [← HN.out]; exact h1))
    go_enter Try.func16, Try.ntmps16
    go_wp2_with fail
    go_ret
    exact ⟨by rw [HF.out]; rfl, (Below.refl _ _).alloc (Nat.le_refl _) _⟩
  have e1 : decide ((256 : Int) < (n : Int)) = false := decide_eq_false (by omega)
  by_cases h2 : 4096 < m
  · have e2 : decide ((4096 : Int) < (m : Int)) = true := decide_eq_true (by omega)
    have HF := hid (show sv = false by rw [HSV.out]; exact strB_wideN (by rw [← HM.out]; exact h2))
    go_enter Try.func16, Try.ntmps16
    go_wp2_with fail
    go_ret
    exact ⟨by rw [HF.out]; rfl, (Below.refl _ _).alloc (Nat.le_refl _) _⟩
  have e2 : decide ((4096 : Int) < (m : Int)) = false := decide_eq_false (by omega)
  replace h1 : n ≤ 256 := by omega
  replace h2 : m ≤ 4096 := by omega
  have hmm := fun (W : World) => (show (Instr.makeMap 99 none).run Try.prog W = .ok (.map (some W.heap.size)) (W.alloc (.map #[] 0)) by simp [Instr.makeMap, newObj]; rfl)
  go_enter Try.func16, Try.ntmps16
  go_wp2_with fail
  go_loopw [22] (fun iv W => ∃ i : Nat, i ≤ n ∧ iv = .int .i64 (i : Int) ∧ allN (okA P) i = true ∧ MapAt Try.prog W 3 (w.heap.size + 1) i (seenG (sqA P) i) ∧ Below w.heap.size w W ∧ W.heap[w.heap.size]? = some (.cells #[.slice pa n pc, .slice na m nc] 49) ∧ w.heap.size + 1 < W.heap.size) (fun iv _ => n - (intOf iv).toNat)
  case atStart =>
    have h0 : MapAt Try.prog ((w.alloc (.cells #[.slice pa n pc, .slice na m nc] 49)).alloc (.map #[] 0)) 3 (w.alloc (.cells #[.slice pa n pc, .slice na m nc] 49)).heap.size 0 (seenG (sqA P) 0) := MapAt.made (w.alloc (.cells #[.slice pa n pc, .slice na m nc] 49))
    rw [show (w.alloc (.cells #[.slice pa n pc, .slice na m nc] 49)).heap.size = w.heap.size + 1 by simp] at h0
    exact ⟨0, by omega, rfl, rfl, h0, ((Below.refl _ _).alloc (Nat.le_refl _) _).alloc (by simp) _, heap_alloc_past _ _ _ _ (heap_alloc_at _ _ _ rfl), by simp⟩
  case round =>
    obtain ⟨i, hi, rfl, hall, hmap, hB, hkp, hzw⟩ := hrel
    have HALL := hid hall
    have HMP := hid hmap
    have HBwr := hid hB
    have KP := hid hkp
    have hzwr := hB.size
    clear hall hmap hB hkp
    by_cases hlt : i < n
    · have HSP := hid (seen_put (sqA P) i)
      have e3 : decide ((i : Int) < (n : Int)) = true := decide_eq_true (by omega)
      obtain ⟨p, hp⟩ : ∃ p, P[i]? = some p := ⟨_, List.getElem?_eq_getElem (by rw [← HN.out]; exact hlt)⟩
      have hmem := List.mem_of_getElem? hp
      have hxs := HS.out p hmem
      have hxl := HSL.out p hmem
      obtain ⟨b, off, rfl, hbw, hrows⟩ := HPR.out.resolve_left (fun h => by rw [h] at hp; simp at hp)
      have HRB := hid (show b < w.heap.size from hbw)
      have HRR := hid hrows
      have hcs : ∀ y, y < 7 → wr.cell? ⟨b, off + i * 7 + y, none⟩ = p.row[y]? := fun y hy => by
        rw [HBwr.out.cell hbw, hrows i p.row (by rw [List.getElem?_map, hp]; rfl) y hy]
      have HOA := hid (okA_at hp)
      have HSQ := hid (sqA_at hp)
      have HNO := hid (fun h : okA P i = false => show sv = false by rw [HSV.out]; exact strB_p (by rw [← HN.out]; exact hlt) h)
      have HYS := hid (fun h : okA P i = true => allN_next HALL.out h)
      clear hp hmem hrows hbw
      obtain ⟨sq, tm, q0, q1, q2, q3, xv, X⟩ := p
      obtain ⟨xa, xc, hxv, hxr⟩ := id hxs
      obtain rfl : xv = .slice xa X.length xc := hxv
      clear hxr
      simp only [Nb.row] at hcs HOA HSQ
      have HXS := hid hxs
      have HXC := hid (fun W h => xpulse_any tm q0 q1 q2 q3 (.slice xa X.length xc) X W h hxl)
      have HPB := hid (show nbB ⟨sq, tm, q0, q1, q2, q3, .slice xa X.length xc, X⟩ = (inB 0 4294967295 sq && pulB tm q0 q1 q2 q3 X) from rfl)
      obtain ⟨nb, hnb⟩ : ∃ nb, nb = nbB ⟨sq, tm, q0, q1, q2, q3, .slice xa X.length xc, X⟩ := ⟨_, rfl⟩
      rw [← hnb] at HPB HOA
      clear hnb hxs hxl
      generalize X.length = xn at *
      rw [HSQ.out] at HSP
      have HLK := hid (seen_look (sqA P) i sq)
      have c0 : wr.cell? ⟨b, off + i * 7, none⟩ = some (.int .i64 sq) := hcs 0 (by decide)
      have c1 : wr.cell? ⟨b, off + i * 7 + 1, none⟩ = some (.int .i64 tm) := hcs 1 (by decide)
      have c2 : wr.cell? ⟨b, off + i * 7 + 2, none⟩ = some (.int .i64 q0) := hcs 2 (by decide)
      have c3 : wr.cell? ⟨b, off + i * 7 + 3, none⟩ = some (.int .i64 q1) := hcs 3 (by decide)
      have c4 : wr.cell? ⟨b, off + i * 7 + 4, none⟩ = some (.int .i64 q2) := hcs 4 (by decide)
      have c5 : wr.cell? ⟨b, off + i * 7 + 5, none⟩ = some (.int .i64 q3) := hcs 5 (by decide)
      have c6 : wr.cell? ⟨b, off + i * 7 + 6, none⟩ = some (.slice xa xn xc) := hcs 6 (by decide)
      clear hcs
      cases hA : inB 0 4294967295 sq
      · have HA := hid hA
        have HF := hid (HNO.out (by rw [HOA.out, HPB.out, hA]; rfl))
        clear hA
        go_wp2_with fail
        refine (in_any _ _ _ _).mono ?_
        rintro r w1 ⟨rfl, rfl⟩
        rw [HA.out]
        go_wp2_with fail
        go_ret
        exact ⟨by rw [HF.out]; rfl, HBwr.out.alloc hzwr _⟩
      have hwf : (Lit.int .i64 sq).wf = true := WalkArith.wf_i64 (by simp [inB] at hA; omega)
      have HKEY := hid (keyOf_int_mk Try.underlying3 hwf)
      have HA := hid hA
      have HM1 := hid (HMP.out.grow ((Below.refl _ _).alloc (Nat.le_refl _) (.cells #[.int .i64 sq, .int .i64 tm, .int .i64 q0, .int .i64 q1, .int .i64 q2, .int .i64 q3, .slice xa xn xc] 51)))
      have hlook := HM1.out.look law3 Try.underlying99 (zero4 _) HKEY.out
      rw [HLK.out] at hlook
      clear hA hwf HMP
      cases hq : (List.range i).any (fun j => sqA P j 0 == sq)
      case true =>
        rw [hq] at hlook
        have HF := hid (HNO.out (by rw [HOA.out, hq]; simp))
        clear hq
        go_wp2_with fail
        refine (in_any _ _ _ _).mono ?_
        rintro r w1 ⟨rfl, rfl⟩
        rw [HA.out]
        go_wp2_with fail
        go_ret
        exact ⟨by rw [HF.out]; rfl, HBwr.out.alloc hzwr _⟩
      case false =>
        rw [hq] at hlook
        have HQ := hid hq
        clear hq
        go_wp2_with fail
        refine (in_any _ _ _ _).mono ?_
        rintro r w1 ⟨rfl, rfl⟩
        rw [HA.out]
        have KX := hid (heap_alloc_at wr (.cells #[.int .i64 sq, .int .i64 tm, .int .i64 q0, .int .i64 q1, .int .i64 q2, .int .i64 q3, .slice xa xn xc] 51) _ rfl)
        go_wp2_with fail
        refine (HXC.out _ ((HXS.out.still (HBwr.out)).still ((Below.refl _ _).alloc (Nat.le_refl _) _))).mono ?_
        rintro r w1 ⟨rfl, hb⟩
        have hs1 := hb.size
        simp at hs1
        have HKX := hid (heap_still hb KX.out)
        have q0' : w1.cell? ⟨wr.heap.size, 0, none⟩ = some (.int .i64 sq) := (cell_row (j := 0) HKX.out).trans rfl
        have HM2 := hid (HM1.out.grow hb)
        have HKP := hid (heap_still hb (heap_alloc_past wr (.cells #[.int .i64 sq, .int .i64 tm, .int .i64 q0, .int .i64 q1, .int .i64 q2, .int .i64 q3, .slice xa xn xc] 51) _ _ KP.out))
        have HB1 := hid (show Below w.heap.size w w1 from (HBwr.out.alloc hzwr _).trans (hb.mono (by simp; omega)))
        clear hb HM1 hlook
        cases hpu : pulB tm q0 q1 q2 q3 X
        · have HF := hid (HNO.out (by rw [HOA.out, HPB.out, hpu]; simp))
          clear hpu
          go_wp2_with fail
          go_ret
          exact ⟨by rw [HF.out]; rfl, HB1.out⟩
        · have HY := hid (HYS.out (by rw [HOA.out, HPB.out, hpu, HA.out, HQ.out]; rfl))
          clear hpu
          go_wp2_with (at_mapUpdate; go_loud (refine wpList_put rfl (.tmp 42) (.tmp 44) (.const (.bool true)) 99 rfl law3 Try.underlying99 rfl HM2.out (by unfold maxLen; omega) (.int .i64 sq) (.bool true) (.int .i64 sq) rfl rfl HKEY.out ?_); intro w2 hm2 hg2)
          rw [HSP.out] at hm2
          have hs2 := hg2.size
          exact ⟨⟨i + 1, by omega, by go_num, HY.out, hm2, HB1.out.grown hg2 (by omega) (fun j hj => by injection hj with hj; omega), (hg2.block _ (by omega) (fun e => by injection e with e; omega)).trans HKP.out, by omega⟩, by simp [intOf]; omega⟩
    · obtain rfl : i = n := by omega
      have e3 : decide ((i : Int) < (i : Int)) = false := by simp
      have r1 : wr.cell? ⟨w.heap.size, 1, none⟩ = some (.slice na m nc) := (cell_row (j := 1) KP.out).trans rfl
      have HOKA := hid (show allN (okA P) P.length = true by rw [← HN.out]; exact HALL.out)
      have HOK := hid (fun h => show sv = true by rw [HSV.out]; exact strB_ok (by rw [← HN.out]; exact h1) (by rw [← HM.out]; exact h2) HOKA.out h)
      clear HALL HMP KP
      go_wp2_with fail
      clear r1
      have HB0 := hid HBwr.out
      have hz0 := HBwr.out.size
      clear HBwr hzw hzwr
      go_loopw [49] (fun iv W => ∃ i : Nat, i ≤ m ∧ iv = .int .i64 (i : Int) ∧ (N.take i).all nvB = true ∧ Below w.heap.size w W) (fun iv _ => m - (intOf iv).toNat)
      case atStart => exact ⟨0, by omega, rfl, rfl, HB0.out⟩
      case round =>
        obtain ⟨i, hi, rfl, hall, hB⟩ := hrel
        have HALL := hid hall
        have HBwr := hid hB
        have hzwr := hB.size
        clear hall hB
        by_cases hlt : i < m
        · have e3 : decide ((i : Int) < (m : Int)) = true := decide_eq_true (by omega)
          obtain ⟨p, hp⟩ : ∃ p, N[i]? = some p := ⟨_, List.getElem?_eq_getElem (by rw [← HM.out]; exact hlt)⟩
          obtain ⟨b, off, rfl, hbw, hrows⟩ := HNR.out.resolve_left (fun h => by rw [h] at hp; simp at hp)
          have hcs : ∀ y, y < 14 → wr.cell? ⟨b, off + i * 14 + y, none⟩ = p.row[y]? := fun y hy => by
            rw [HBwr.out.cell hbw, hrows i p.row (by rw [List.getElem?_map, hp]; rfl) y hy]
          have HNO := hid (fun h : nvB p = false => show sv = false by rw [HSV.out]; exact strB_n (nav_all_stop hp h))
          have HYS := hid (fun h : nvB p = true => nav_all_next hp h HALL.out)
          clear hp hrows hbw
          obtain ⟨is, ft, fx, fy, fz, fe, fa, fb, fc, fd, fg, s0, s1, s2⟩ := p
          simp only [Nv.row] at hcs
          obtain ⟨nb, hnb⟩ : ∃ nb, nb = navB is ft fx fy fz fe fa fb fc fd fg s0 s1 s2 := ⟨_, rfl⟩
          have HNB := hid hnb
          rw [show nvB ⟨is, ft, fx, fy, fz, fe, fa, fb, fc, fd, fg, s0, s1, s2⟩ = nb from hnb.symm] at HNO HYS
          clear hnb
          have c0 : wr.cell? ⟨b, off + i * 14, none⟩ = some (.bool is) := hcs 0 (by decide)
          have c1 : wr.cell? ⟨b, off + i * 14 + 1, none⟩ = some (.int .i64 ft) := hcs 1 (by decide)
          have c2 : wr.cell? ⟨b, off + i * 14 + 2, none⟩ = some (.int .i64 fx) := hcs 2 (by decide)
          have c3 : wr.cell? ⟨b, off + i * 14 + 3, none⟩ = some (.int .i64 fy) := hcs 3 (by decide)
          have c4 : wr.cell? ⟨b, off + i * 14 + 4, none⟩ = some (.int .i64 fz) := hcs 4 (by decide)
          have c5 : wr.cell? ⟨b, off + i * 14 + 5, none⟩ = some (.int .i64 fe) := hcs 5 (by decide)
          have c6 : wr.cell? ⟨b, off + i * 14 + 6, none⟩ = some (.int .i64 fa) := hcs 6 (by decide)
          have c7 : wr.cell? ⟨b, off + i * 14 + 7, none⟩ = some (.int .i64 fb) := hcs 7 (by decide)
          have c8 : wr.cell? ⟨b, off + i * 14 + 8, none⟩ = some (.int .i64 fc) := hcs 8 (by decide)
          have c9 : wr.cell? ⟨b, off + i * 14 + 9, none⟩ = some (.int .i64 fd) := hcs 9 (by decide)
          have c10 : wr.cell? ⟨b, off + i * 14 + 10, none⟩ = some (.int .i64 fg) := hcs 10 (by decide)
          have c11 : wr.cell? ⟨b, off + i * 14 + 11, none⟩ = some (.int .i64 s0) := hcs 11 (by decide)
          have c12 : wr.cell? ⟨b, off + i * 14 + 12, none⟩ = some (.int .i64 s1) := hcs 12 (by decide)
          have c13 : wr.cell? ⟨b, off + i * 14 + 13, none⟩ = some (.int .i64 s2) := hcs 13 (by decide)
          clear hcs
          go_wp2_with fail
          refine (xplain_any _ _ _ _ _ _ _ _ _ _ _ _ _ _ _).mono ?_
          rintro r w1 ⟨rfl, hb⟩
          rw [← HNB.out]
          have HB1 := hid (show Below w.heap.size w w1 from (HBwr.out.alloc hzwr _).trans (hb.mono (by simp; omega)))
          clear hb
          cases nb
          · have HF := hid (HNO.out rfl)
            go_wp2_with fail
            go_ret
            exact ⟨by rw [HF.out]; rfl, HB1.out⟩
          · have HY := hid (HYS.out rfl)
            go_wp2_with fail
            exact ⟨⟨i + 1, by omega, by go_num, HY.out, HB1.out⟩, by simp [intOf]; omega⟩
        · obtain rfl : i = m := by omega
          have e3 : decide ((i : Int) < (i : Int)) = false := by simp
          have HF := hid (HOK.out (by have h9 := HALL.out; rw [List.take_of_length_le (by rw [← HM.out]; omega)] at h9; exact h9))
          go_wp2_with fail
          go_ret
          exact ⟨by rw [HF.out]; rfl, HBwr.out⟩
theorem sq_next {P : List Nb} {j : Nat} {s : Int} (h : (List.range j).any (fun j => sqA P j 0 == s) = false) (h2 : (sqA P j 0 == s) = false) : (List.range (j + 1)).any (fun j => sqA P j 0 == s) = false := by
  rw [List.range_succ, List.any_append, h]
  simp [h2]
theorem sq_stop {P : List Nb} {i j : Nat} {s : Int} (hj : j < i) (h : (sqA P j 0 == s) = true) : (List.range i).any (fun j => sqA P j 0 == s) = true := by
  rw [List.any_eq_true]
  exact ⟨j, List.mem_range.2 hj, h⟩
set_option maxRecDepth 100000 in
set_option maxHeartbeats 3200000 in
theorem rstrip_any (pv nv : Value) (P : List Nb) (N : List Nv) (w : World) (h : StV w pv P nv N) :
    Calls Try.prog 20 #[.agg #[pv, nv]] w fun r w' => r = .returned (.bool (strB P N)) ∧ Below w.heap.size w w' := by
  obtain ⟨⟨pa, pc, rfl, hpr⟩, ⟨na, nc, rfl, hnr⟩, hs, hsl, hpl, hnl⟩ := h
  obtain ⟨sv, hsv⟩ : ∃ sv, sv = strB P N := ⟨_, rfl⟩
  rw [← hsv]
  have HSV := hid hsv
  have HPR := hid hpr
  have HNR := hid hnr
  have HS := hid hs
  have HSL := hid hsl
  obtain ⟨n, hn⟩ : ∃ n, n = P.length := ⟨_, rfl⟩
  obtain ⟨m, hm⟩ : ∃ m, m = N.length := ⟨_, rfl⟩
  rw [← hn] at hpl ⊢
  rw [← hm] at hnl ⊢
  have hn' : n ≤ 9223372036854775807 := by unfold maxLen at hpl; omega
  have hm' : m ≤ 9223372036854775807 := by unfold maxLen at hnl; omega
  have HN := hid hn
  have HM := hid hm
  clear hsv hpr hnr hs hsl hn hm hpl hnl
  by_cases h1 : 256 < n
  · have e1 : decide ((256 : Int) < (n : Int)) = true := decide_eq_true (by omega)
    have HF := hid (show sv = false by rw [HSV.out]; exact strB_wideP (by rw [← HN.out]; exact h1))
    go_enter Try.func20, Try.ntmps20
    go_wp2_with fail
    go_ret
    exact ⟨by rw [HF.out]; rfl, (Below.refl _ _).alloc (Nat.le_refl _) _⟩
  have e1 : decide ((256 : Int) < (n : Int)) = false := decide_eq_false (by omega)
  by_cases h2 : 4096 < m
  · have e2 : decide ((4096 : Int) < (m : Int)) = true := decide_eq_true (by omega)
    have HF := hid (show sv = false by rw [HSV.out]; exact strB_wideN (by rw [← HM.out]; exact h2))
    go_enter Try.func20, Try.ntmps20
    go_wp2_with fail
    go_ret
    exact ⟨by rw [HF.out]; rfl, (Below.refl _ _).alloc (Nat.le_refl _) _⟩
  have e2 : decide ((4096 : Int) < (m : Int)) = false := decide_eq_false (by omega)
  replace h1 : n ≤ 256 := by omega
  replace h2 : m ≤ 4096 := by omega
  go_enter Try.func20, Try.ntmps20
  go_wp2_with fail
  go_loopw [23] (fun iv W => ∃ i : Nat, i ≤ n ∧ iv = .int .i64 (i : Int) ∧ allN (okA P) i = true ∧ Below w.heap.size w W ∧ W.heap[w.heap.size]? = some (.cells #[.slice pa n pc, .slice na m nc] 49)) (fun iv _ => n - (intOf iv).toNat)
  case atStart => exact ⟨0, by omega, rfl, rfl, (Below.refl _ _).alloc (Nat.le_refl _) _, heap_alloc_at _ _ _ rfl⟩
  case round =>
    obtain ⟨i, hi, rfl, hall, hB, hkp⟩ := hrel
    have HALL := hid hall
    have HBwr := hid hB
    have KP := hid hkp
    have hzwr := hB.size
    have hzk : w.heap.size < wr.heap.size := (Array.getElem?_eq_some_iff.1 hkp).1
    clear hall hB hkp
    by_cases hlt : i < n
    · have e3 : decide ((i : Int) < (n : Int)) = true := decide_eq_true (by omega)
      obtain ⟨p, hp⟩ : ∃ p, P[i]? = some p := ⟨_, List.getElem?_eq_getElem (by rw [← HN.out]; exact hlt)⟩
      have hmem := List.mem_of_getElem? hp
      have hxs := HS.out p hmem
      have hxl := HSL.out p hmem
      obtain ⟨b, off, rfl, hbw, hrows⟩ := HPR.out.resolve_left (fun h => by rw [h] at hp; simp at hp)
      have HRB := hid (show b < w.heap.size from hbw)
      have HRR := hid hrows
      have hcs : ∀ y, y < 7 → wr.cell? ⟨b, off + i * 7 + y, none⟩ = p.row[y]? := fun y hy => by
        rw [HBwr.out.cell hbw, hrows i p.row (by rw [List.getElem?_map, hp]; rfl) y hy]
      have HOA := hid (okA_at hp)
      have HSQ := hid (sqA_at hp)
      have HNO := hid (fun h : okA P i = false => show sv = false by rw [HSV.out]; exact strB_p (by rw [← HN.out]; exact hlt) h)
      have HYS := hid (fun h : okA P i = true => allN_next HALL.out h)
      clear hp hmem hrows hbw
      obtain ⟨sq, tm, q0, q1, q2, q3, xv, X⟩ := p
      obtain ⟨xa, xc, hxv, hxr⟩ := id hxs
      obtain rfl : xv = .slice xa X.length xc := hxv
      clear hxr
      simp only [Nb.row] at hcs HOA HSQ
      have HXS := hid hxs
      have HXC := hid (fun W h => rpulse_any tm q0 q1 q2 q3 (.slice xa X.length xc) X W h hxl)
      have HPB := hid (show nbB ⟨sq, tm, q0, q1, q2, q3, .slice xa X.length xc, X⟩ = (inB 0 4294967295 sq && pulB tm q0 q1 q2 q3 X) from rfl)
      obtain ⟨nb, hnb⟩ : ∃ nb, nb = nbB ⟨sq, tm, q0, q1, q2, q3, .slice xa X.length xc, X⟩ := ⟨_, rfl⟩
      rw [← hnb] at HPB HOA
      clear hnb hxs hxl
      generalize X.length = xn at *
      have c0 : wr.cell? ⟨b, off + i * 7, none⟩ = some (.int .i64 sq) := hcs 0 (by decide)
      have c1 : wr.cell? ⟨b, off + i * 7 + 1, none⟩ = some (.int .i64 tm) := hcs 1 (by decide)
      have c2 : wr.cell? ⟨b, off + i * 7 + 2, none⟩ = some (.int .i64 q0) := hcs 2 (by decide)
      have c3 : wr.cell? ⟨b, off + i * 7 + 3, none⟩ = some (.int .i64 q1) := hcs 3 (by decide)
      have c4 : wr.cell? ⟨b, off + i * 7 + 4, none⟩ = some (.int .i64 q2) := hcs 4 (by decide)
      have c5 : wr.cell? ⟨b, off + i * 7 + 5, none⟩ = some (.int .i64 q3) := hcs 5 (by decide)
      have c6 : wr.cell? ⟨b, off + i * 7 + 6, none⟩ = some (.slice xa xn xc) := hcs 6 (by decide)
      clear hcs
      have KX := hid (heap_alloc_at wr (.cells #[.int .i64 sq, .int .i64 tm, .int .i64 q0, .int .i64 q1, .int .i64 q2, .int .i64 q3, .slice xa xn xc] 51) _ rfl)
      cases hA : inB 0 4294967295 sq
      · have HA := hid hA
        have HF := hid (HNO.out (by rw [HOA.out, HPB.out, hA]; rfl))
        clear hA
        go_wp2_with fail
        refine (rfrom_any _ _ _ _).mono ?_
        rintro r w1 ⟨rfl, rfl⟩
        rw [HA.out]
        go_wp2_with fail
        go_ret
        exact ⟨by rw [HF.out]; rfl, HBwr.out.alloc hzwr _⟩
      have HA := hid hA
      clear hA
      go_wp2_with fail
      refine (rfrom_any _ _ _ _).mono ?_
      rintro r w1 ⟨rfl, rfl⟩
      rw [HA.out]
      go_wp2_with fail
      refine (HXC.out _ ((HXS.out.still (HBwr.out)).still ((Below.refl _ _).alloc (Nat.le_refl _) _))).mono ?_
      rintro r w1 ⟨rfl, hb⟩
      have hs1 := hb.size
      simp at hs1
      have HKX := hid (heap_still hb KX.out)
      have HKP := hid (heap_still hb (heap_alloc_past wr (.cells #[.int .i64 sq, .int .i64 tm, .int .i64 q0, .int .i64 q1, .int .i64 q2, .int .i64 q3, .slice xa xn xc] 51) _ _ KP.out))
      have HB1 := hid (show Below w.heap.size w w1 from (HBwr.out.alloc hzwr _).trans (hb.mono (by simp; omega)))
      clear hb
      cases hpu : pulB tm q0 q1 q2 q3 X
      · have HF := hid (HNO.out (by rw [HOA.out, HPB.out, hpu]; simp))
        clear hpu
        go_wp2_with fail
        go_ret
        exact ⟨by rw [HF.out]; rfl, HB1.out⟩
      have HPU := hid hpu
      clear hpu
      have hzw1 := HB1.out.size
      go_wp2_with fail
      go_loopw [5] (fun jv W => ∃ j : Nat, j ≤ i ∧ jv = .int .i64 (j : Int) ∧ (List.range j).any (fun j => sqA P j 0 == sq) = false ∧ Below w1.heap.size w1 W) (fun jv _ => i - (intOf jv).toNat)
      case atStart => exact ⟨0, by omega, rfl, rfl, Below.refl _ _⟩
      case round =>
        obtain ⟨j, hji, rfl, hany, hB2⟩ := hrel
        have HAN := hid hany
        have HB2 := hid hB2
        have hz2 := hB2.size
        have HKX2 := hid (heap_still hB2 HKX.out)
        have HKP2 := hid (heap_still hB2 HKP.out)
        by_cases hjl : j < i
        · have e4 : decide ((j : Int) < (i : Int)) = true := decide_eq_true (by omega)
          obtain ⟨pj, hpj⟩ : ∃ p, P[j]? = some p := ⟨_, List.getElem?_eq_getElem (by rw [← HN.out]; omega)⟩
          have hcj : wr.cell? ⟨b, off + j * 7, none⟩ = some (.int .i64 (sqA P j 0)) := by
            have h3 := HRR.out j pj.row (by rw [List.getElem?_map, hpj]; rfl) 0 (by decide)
            rw [sqA_at hpj]
            exact (hB2.cell (p := ⟨b, off + j * 7, none⟩) (show b < w1.heap.size by have := HRB.out; omega)).trans (((HB1.out.cell (p := ⟨b, off + j * 7, none⟩) HRB.out)).trans h3)
          have hck := (cell_row (j := 0) HKX2.out).trans (show _ = some (Value.int .i64 sq) from rfl)
          have hcp : wr.cell? ⟨w.heap.size, 0, none⟩ = some (.slice (some ⟨b, off, none⟩) n pc) := (cell_row (j := 0) HKP2.out).trans rfl
          have HNX := hid (fun h => sq_next (P := P) (j := j) (s := sq) HAN.out h)
          have HSTP := hid (fun h => sq_stop (P := P) (i := i) (j := j) (s := sq) hjl h)
          clear hB2 hpj hany
          generalize sqA P j 0 = sj at *
          have a0 := fun d os => cell_regrown hcj d os
          have a1 := fun d os => cell_regrown hck d os
          have a2 := fun d os => cell_regrown hcp d os
          go_wp2_with fail
          refine wp_region_quiet_below (by kernel_rfl) (by kernel_rfl) ?_
          repeat (first | go_big_quiet_step (fail) | quiet_step (fail))
          refine wpQuiet_nil ?_
          intro _ hw'
          obtain ⟨⟨dqV, osV⟩, hw2⟩ := hw'
          subst hw2
          have HQV := hid (below_regrown wr dqV osV)
          generalize Sort.grow (redrawn wr dqV) osV = V at HQV ⊢
          have hsV := HQV.out.size
          have HB3 := hid (HB2.out.trans (HQV.out.mono hz2))
          clear a0 a1 a2 hcj hck hcp HKX2 HKP2
          cases hqp : (sj == sq)
          · have HJ := hid (HNX.out hqp)
            go_wp2_with fail
            exact ⟨⟨j + 1, by omega, by go_num, HJ.out, HB3.out⟩, by simp [intOf]; omega⟩
          · have HF := hid (HNO.out (by rw [HOA.out, HSTP.out hqp]; simp))
            go_wp2_with fail
            go_ret
            exact ⟨by rw [HF.out]; rfl, HB1.out.trans (HB3.out.mono hzw1)⟩
        · obtain rfl : j = i := by omega
          have e4 : decide ((j : Int) < (j : Int)) = false := by simp
          have HY := hid (HYS.out (by rw [HOA.out, HPB.out, HPU.out, HA.out, HAN.out]; rfl))
          clear hany hB2
          go_wp2_with fail
          exact ⟨⟨j + 1, by omega, by go_num, HY.out, HB1.out.trans (HB2.out.mono hzw1), HKP2.out⟩, by simp [intOf]; omega⟩
    · obtain rfl : i = n := by omega
      have e3 : decide ((i : Int) < (i : Int)) = false := by simp
      have r1 : wr.cell? ⟨w.heap.size, 1, none⟩ = some (.slice na m nc) := (cell_row (j := 1) KP.out).trans rfl
      have HOKA := hid (show allN (okA P) P.length = true by rw [← HN.out]; exact HALL.out)
      have HOK := hid (fun h => show sv = true by rw [HSV.out]; exact strB_ok (by rw [← HN.out]; exact h1) (by rw [← HM.out]; exact h2) HOKA.out h)
      clear HALL KP
      go_wp2_with fail
      clear r1
      have HB0 := hid HBwr.out
      clear HBwr hzk hzwr
      go_loopw [56] (fun iv W => ∃ i : Nat, i ≤ m ∧ iv = .int .i64 (i : Int) ∧ (N.take i).all nvB = true ∧ Below w.heap.size w W) (fun iv _ => m - (intOf iv).toNat)
      case atStart => exact ⟨0, by omega, rfl, rfl, HB0.out⟩
      case round =>
        obtain ⟨i, hi, rfl, hall, hB⟩ := hrel
        have HALL := hid hall
        have HBwr := hid hB
        have hzwr := hB.size
        clear hall hB
        by_cases hlt : i < m
        · have e3 : decide ((i : Int) < (m : Int)) = true := decide_eq_true (by omega)
          obtain ⟨p, hp⟩ : ∃ p, N[i]? = some p := ⟨_, List.getElem?_eq_getElem (by rw [← HM.out]; exact hlt)⟩
          obtain ⟨b, off, rfl, hbw, hrows⟩ := HNR.out.resolve_left (fun h => by rw [h] at hp; simp at hp)
          have hcs : ∀ y, y < 14 → wr.cell? ⟨b, off + i * 14 + y, none⟩ = p.row[y]? := fun y hy => by
            rw [HBwr.out.cell hbw, hrows i p.row (by rw [List.getElem?_map, hp]; rfl) y hy]
          have HNO := hid (fun h : nvB p = false => show sv = false by rw [HSV.out]; exact strB_n (nav_all_stop hp h))
          have HYS := hid (fun h : nvB p = true => nav_all_next hp h HALL.out)
          clear hp hrows hbw
          obtain ⟨is, ft, fx, fy, fz, fe, fa, fb, fc, fd, fg, s0, s1, s2⟩ := p
          simp only [Nv.row] at hcs
          obtain ⟨nb, hnb⟩ : ∃ nb, nb = navB is ft fx fy fz fe fa fb fc fd fg s0 s1 s2 := ⟨_, rfl⟩
          have HNB := hid hnb
          rw [show nvB ⟨is, ft, fx, fy, fz, fe, fa, fb, fc, fd, fg, s0, s1, s2⟩ = nb from hnb.symm] at HNO HYS
          clear hnb
          have c0 : wr.cell? ⟨b, off + i * 14, none⟩ = some (.bool is) := hcs 0 (by decide)
          have c1 : wr.cell? ⟨b, off + i * 14 + 1, none⟩ = some (.int .i64 ft) := hcs 1 (by decide)
          have c2 : wr.cell? ⟨b, off + i * 14 + 2, none⟩ = some (.int .i64 fx) := hcs 2 (by decide)
          have c3 : wr.cell? ⟨b, off + i * 14 + 3, none⟩ = some (.int .i64 fy) := hcs 3 (by decide)
          have c4 : wr.cell? ⟨b, off + i * 14 + 4, none⟩ = some (.int .i64 fz) := hcs 4 (by decide)
          have c5 : wr.cell? ⟨b, off + i * 14 + 5, none⟩ = some (.int .i64 fe) := hcs 5 (by decide)
          have c6 : wr.cell? ⟨b, off + i * 14 + 6, none⟩ = some (.int .i64 fa) := hcs 6 (by decide)
          have c7 : wr.cell? ⟨b, off + i * 14 + 7, none⟩ = some (.int .i64 fb) := hcs 7 (by decide)
          have c8 : wr.cell? ⟨b, off + i * 14 + 8, none⟩ = some (.int .i64 fc) := hcs 8 (by decide)
          have c9 : wr.cell? ⟨b, off + i * 14 + 9, none⟩ = some (.int .i64 fd) := hcs 9 (by decide)
          have c10 : wr.cell? ⟨b, off + i * 14 + 10, none⟩ = some (.int .i64 fg) := hcs 10 (by decide)
          have c11 : wr.cell? ⟨b, off + i * 14 + 11, none⟩ = some (.int .i64 s0) := hcs 11 (by decide)
          have c12 : wr.cell? ⟨b, off + i * 14 + 12, none⟩ = some (.int .i64 s1) := hcs 12 (by decide)
          have c13 : wr.cell? ⟨b, off + i * 14 + 13, none⟩ = some (.int .i64 s2) := hcs 13 (by decide)
          clear hcs
          go_wp2_with fail
          refine (rnav_any _ _ _ _ _ _ _ _ _ _ _ _ _ _ _).mono ?_
          rintro r w1 ⟨⟨bv, er, rfl, her⟩, hb⟩
          rw [← HNB.out] at her
          have HB1 := hid (show Below w.heap.size w w1 from (HBwr.out.alloc hzwr _).trans (hb.mono (by simp; omega)))
          clear hb
          cases nb
          · have HF := hid (HNO.out rfl)
            go_wp2_with fail
            go_ret
            exact ⟨by rw [HF.out]; rfl, HB1.out⟩
          · have HY := hid (HYS.out rfl)
            go_wp2_with fail
            exact ⟨⟨i + 1, by omega, by go_num, HY.out, HB1.out⟩, by simp [intOf]; omega⟩
        · obtain rfl : i = m := by omega
          have e3 : decide ((i : Int) < (i : Int)) = false := by simp
          have HF := hid (HOK.out (by have h9 := HALL.out; rw [List.take_of_length_le (by rw [← HM.out]; omega)] at h9; exact h9))
          go_wp2_with fail
          go_ret
          exact ⟨by rw [HF.out]; rfl, HBwr.out⟩
end Go.Proofs.Ytpablkmdpoombaa
