/- PlantValid: which configurations, strip data and orders are valid. Every input, no condition. (Printed by wip/gen_vallaw.py.) -/
import Derived.Test.YtpablkmdpoombaaStrp
import Derived.Test.YtpablkmdpoombaaROrder
import Derived.Test.YtpablkmdpoombaaPAwake
import Derived.Test.YtpablkmdpoombaaAidE
import Derived.SizedLaws
namespace Go.Proofs.Ytpablkmdpoombaa
open Go.ChangeShapes Go.WideShapes Go.ChangeAt Go.RowKit Go.Maps Go.Sort

set_option maxRecDepth 100000 in
theorem heavy_any (pv nv : Value) (P : List Nb) (N : List Nv) (w : World) (h : StV w pv P nv N) :
    Calls Try.prog 17 #[.agg #[pv, nv]] w fun r w' => (∃ b, r = .returned (.bool b)) ∧ Below w.heap.size w w' := by
  obtain ⟨⟨pa, pc, rfl, hpr⟩, ⟨na, nc, rfl, hnr⟩, hs, hsl, hpl, hnl⟩ := h
  have HPR := hid hpr
  have HS := hid hs
  obtain ⟨n, hn⟩ : ∃ n, n = P.length := ⟨_, rfl⟩
  obtain ⟨m, hm⟩ : ∃ m, m = N.length := ⟨_, rfl⟩
  rw [← hn] at hpl ⊢
  rw [← hm] at hnl ⊢
  have hn' : n ≤ 9223372036854775807 := by unfold maxLen at hpl; omega
  have hm' : m ≤ 9223372036854775807 := by unfold maxLen at hnl; omega
  have HN := hid hn
  clear hpr hnr hs hsl hn hm hpl hnl
  by_cases h1 : 6 < n
  · have e1 : decide ((6 : Int) < (n : Int)) = true := decide_eq_true (by omega)
    go_enter Try.func17, Try.ntmps17
    go_wp2_with fail
    go_ret
    exact ⟨⟨_, rfl⟩, (Below.refl _ _).alloc (Nat.le_refl _) _⟩
  have e1 : decide ((6 : Int) < (n : Int)) = false := decide_eq_false (by omega)
  by_cases h2 : 14 < m
  · have e2 : decide ((14 : Int) < (m : Int)) = true := decide_eq_true (by omega)
    go_enter Try.func17, Try.ntmps17
    go_wp2_with fail
    go_ret
    exact ⟨⟨_, rfl⟩, (Below.refl _ _).alloc (Nat.le_refl _) _⟩
  have e2 : decide ((14 : Int) < (m : Int)) = false := decide_eq_false (by omega)
  replace h1 : n ≤ 6 := by omega
  go_enter Try.func17, Try.ntmps17
  go_wp2_with fail
  go_loopw [18] (fun iv W => ∃ i : Nat, i ≤ n ∧ iv = .int .i64 (i : Int) ∧ Below w.heap.size w W) (fun iv _ => n - (intOf iv).toNat)
  case atStart => exact ⟨0, by omega, rfl, (Below.refl _ _).alloc (Nat.le_refl _) _⟩
  case round =>
    obtain ⟨i, hi, rfl, hB⟩ := hrel
    have HBwr := hid hB
    have hzwr := hB.size
    clear hB
    by_cases hlt : i < n
    · have e3 : decide ((i : Int) < (n : Int)) = true := decide_eq_true (by omega)
      obtain ⟨p, hp⟩ : ∃ p, P[i]? = some p := ⟨_, List.getElem?_eq_getElem (by rw [← HN.out]; exact hlt)⟩
      have hxs := HS.out p (List.mem_of_getElem? hp)
      obtain ⟨b, off, rfl, hbw, hrows⟩ := HPR.out.resolve_left (fun h => by rw [h] at hp; simp at hp)
      have hcs : ∀ y, y < 7 → wr.cell? ⟨b, off + i * 7 + y, none⟩ = p.row[y]? := fun y hy => by
        rw [HBwr.out.cell hbw, hrows i p.row (by rw [List.getElem?_map, hp]; rfl) y hy]
      clear hp hrows hbw
      obtain ⟨sq, tm, q0, q1, q2, q3, xv, X⟩ := p
      obtain ⟨xa, xc, hxv, hxr⟩ := hxs
      obtain rfl : xv = .slice xa X.length xc := hxv
      clear hxr
      simp only [Nb.row] at hcs
      generalize X.length = xn at *
      have c0 : wr.cell? ⟨b, off + i * 7, none⟩ = some (.int .i64 sq) := hcs 0 (by decide)
      have c1 : wr.cell? ⟨b, off + i * 7 + 1, none⟩ = some (.int .i64 tm) := hcs 1 (by decide)
      have c2 : wr.cell? ⟨b, off + i * 7 + 2, none⟩ = some (.int .i64 q0) := hcs 2 (by decide)
      have c3 : wr.cell? ⟨b, off + i * 7 + 3, none⟩ = some (.int .i64 q1) := hcs 3 (by decide)
      have c4 : wr.cell? ⟨b, off + i * 7 + 4, none⟩ = some (.int .i64 q2) := hcs 4 (by decide)
      have c5 : wr.cell? ⟨b, off + i * 7 + 5, none⟩ = some (.int .i64 q3) := hcs 5 (by decide)
      have c6 : wr.cell? ⟨b, off + i * 7 + 6, none⟩ = some (.slice xa xn xc) := hcs 6 (by decide)
      clear hcs
      by_cases h4 : 48 < xn
      · have e4 : decide ((48 : Int) < (xn : Int)) = true := decide_eq_true (by omega)
        go_wp2_with fail
        go_ret
        exact ⟨⟨_, rfl⟩, HBwr.out.alloc hzwr _⟩
      · have e4 : decide ((48 : Int) < (xn : Int)) = false := decide_eq_false (by omega)
        go_wp2_with fail
        exact ⟨⟨i + 1, by omega, by go_num, HBwr.out.alloc hzwr _⟩, by simp [intOf]; omega⟩
    · obtain rfl : i = n := by omega
      have e3 : decide ((i : Int) < (i : Int)) = false := by simp
      go_wp2_with fail
      go_ret
      exact ⟨⟨_, rfl⟩, HBwr.out⟩
theorem cellsQ {w : World} {b t : Nat} {fr : Nat × Nat} {C : Array Value} (h : w.heap[b]? = some (.cells C t fr)) (j : Nat) (v : Value) (hj : C[j]? = some v) (d : Nat) (os : Array Obj) : (Sort.grow (redrawn w d) os).cell? ⟨b, j, none⟩ = some v :=
  cell_regrown ((cell_row (j := j) h).trans hj) d os
/-- the load of a whole block in a quiet walk -/
theorem quiet_load {P : Program} {o : Oper} {a : Act} {C : World → Prop} {K : Act → Prop} (ty : TypeId) (x : Operand) (ho : o.op = .load ty x) (g : Nat) (hx : a.eval x = .pointer (some ⟨g, 0, none⟩)) {t : TypeId} {cs : Array Value} {fr : Nat × Nat} {d : TypeDesc} (hg : ∀ w, C w → w.heap[g]? = some (.cells cs t fr))
    (hu : P.underlying ty = some d) (hd : (match d with | .struct _ | .array _ _ => true | _ => false) = true) (hi : (P.info? ty).map (·.size) = some cs.size) (hk : K (a.put o.dst (.agg cs))) : o.quiet P a C K :=
  ⟨_, fun w hw => by
    unfold Oper.quietAt execOp
    simp only [ho, hx, Instr.loadAt, Instr.sureAddr, Sem.run_bind, Sem.run_pure, Result.andThen_ok, run_loadVar_row w g t ty cs fr d (hg w hw) hu hd hi]
    exact ⟨rfl, rfl⟩, hk⟩
theorem size49 : (Try.prog.info? 49).map (·.size) = some 2 := by kernel_rfl
set_option maxRecDepth 100000 in
set_option maxHeartbeats 3200000 in
theorem valid_law (a0 a1 a2 a3 d0 d1 d2 d3 m0 m1 m2 m3 t0 t1 t2 t3 t4 t5 t6 t7 t8 t9 : Int) (pv nv : Value) (P : List Nb) (N : List Nv) (o : Od) (w : World) (hs : StV w pv P nv N) (ho : OdV w o) :
    Calls Try.prog 6 #[.agg #[.int .i64 a0, .int .i64 a1, .int .i64 a2, .int .i64 a3, .int .i64 d0, .int .i64 d1, .int .i64 d2, .int .i64 d3, .int .i64 m0, .int .i64 m1, .int .i64 m2, .int .i64 m3, .int .i64 t0, .int .i64 t1, .int .i64 t2, .int .i64 t3, .int .i64 t4, .int .i64 t5, .int .i64 t6, .int .i64 t7, .int .i64 t8, .int .i64 t9], .agg #[pv, nv], .agg o.row.toArray] w fun r w' => r = .returned (.bool true) ∧ Below w.heap.size w w' := by
  obtain ⟨cb, hcb⟩ : ∃ cb, cb = cfgB a0 a1 a2 a3 d0 d1 d2 d3 m0 m1 m2 m3 t0 t1 t2 t3 t4 t5 t6 t7 t8 t9 := ⟨_, rfl⟩
  obtain ⟨sb, hsb⟩ : ∃ sb, sb = strB P N := ⟨_, rfl⟩
  obtain ⟨ob, hob⟩ : ∃ ob, ob = odB o := ⟨_, rfl⟩
  have H17 := hid (fun W (hb : Below w.heap.size w W) => heavy_any pv nv P N W (hs.still hb))
  have H18 := hid (fun W => show Calls Try.prog 18 #[.agg #[.int .i64 a0, .int .i64 a1, .int .i64 a2, .int .i64 a3, .int .i64 d0, .int .i64 d1, .int .i64 d2, .int .i64 d3, .int .i64 m0, .int .i64 m1, .int .i64 m2, .int .i64 m3, .int .i64 t0, .int .i64 t1, .int .i64 t2, .int .i64 t3, .int .i64 t4, .int .i64 t5, .int .i64 t6, .int .i64 t7, .int .i64 t8, .int .i64 t9]] W fun r w' => r = .returned (.bool cb) ∧ Below W.heap.size W w' from hcb ▸ xCfg_any a0 a1 a2 a3 d0 d1 d2 d3 m0 m1 m2 m3 t0 t1 t2 t3 t4 t5 t6 t7 t8 t9 W)
  have H19 := hid (fun W => show Calls Try.prog 19 #[.agg #[.int .i64 a0, .int .i64 a1, .int .i64 a2, .int .i64 a3, .int .i64 d0, .int .i64 d1, .int .i64 d2, .int .i64 d3, .int .i64 m0, .int .i64 m1, .int .i64 m2, .int .i64 m3, .int .i64 t0, .int .i64 t1, .int .i64 t2, .int .i64 t3, .int .i64 t4, .int .i64 t5, .int .i64 t6, .int .i64 t7, .int .i64 t8, .int .i64 t9]] W fun r w' => r = .returned (.bool cb) ∧ Below W.heap.size W w' from hcb ▸ rCfg_any a0 a1 a2 a3 d0 d1 d2 d3 m0 m1 m2 m3 t0 t1 t2 t3 t4 t5 t6 t7 t8 t9 W)
  have H16 := hid (fun W (hb : Below w.heap.size w W) => show Calls Try.prog 16 #[.agg #[pv, nv]] W fun r w' => r = .returned (.bool sb) ∧ Below W.heap.size W w' from hsb ▸ xstrip_any pv nv P N W (hs.still hb))
  have H20 := hid (fun W (hb : Below w.heap.size w W) => show Calls Try.prog 20 #[.agg #[pv, nv]] W fun r w' => r = .returned (.bool sb) ∧ Below W.heap.size W w' from hsb ▸ rstrip_any pv nv P N W (hs.still hb))
  have H21 := hid (fun W (hb : Below w.heap.size w W) => show Calls Try.prog 21 #[.agg o.row.toArray] W fun r w' => r = .returned (.bool ob) ∧ Below W.heap.size W w' from hob ▸ xorder_any o W (ho.still hb))
  have H22 := hid (fun W (hb : Below w.heap.size w W) => show Calls Try.prog 22 #[.agg o.row.toArray] W fun r w' => r = .returned (.bool ob) ∧ Below W.heap.size W w' from hob ▸ rorder_any o W (ho.still hb))
  clear hcb hsb hob
  have HC0 := hid (show (#[.int .i64 a0, .int .i64 a1, .int .i64 a2, .int .i64 a3, .int .i64 d0, .int .i64 d1, .int .i64 d2, .int .i64 d3, .int .i64 m0, .int .i64 m1, .int .i64 m2, .int .i64 m3, .int .i64 t0, .int .i64 t1, .int .i64 t2, .int .i64 t3, .int .i64 t4, .int .i64 t5, .int .i64 t6, .int .i64 t7, .int .i64 t8, .int .i64 t9] : Array Value).size = 22 from rfl)
  generalize (#[.int .i64 a0, .int .i64 a1, .int .i64 a2, .int .i64 a3, .int .i64 d0, .int .i64 d1, .int .i64 d2, .int .i64 d3, .int .i64 m0, .int .i64 m1, .int .i64 m2, .int .i64 m3, .int .i64 t0, .int .i64 t1, .int .i64 t2, .int .i64 t3, .int .i64 t4, .int .i64 t5, .int .i64 t6, .int .i64 t7, .int .i64 t8, .int .i64 t9] : Array Value) = C0 at *
  obtain ⟨⟨pa, pc, rfl, _⟩, ⟨na, nc, rfl, _⟩, _, _, hpl, hnl⟩ := hs
  obtain ⟨lv, rv, R, cv, C, ev⟩ := o
  obtain ⟨⟨ra, rc, hrv, _⟩, hrl, ⟨ca, cc, hcv, _⟩, hcl⟩ := ho
  obtain rfl : rv = .slice ra R.length rc := hrv
  obtain rfl : cv = .slice ca C.length cc := hcv
  simp only [Od.row] at *
  have hrl' : R.length ≤ 9223372036854775807 := by have h1 : R.length ≤ maxLen := hrl; unfold maxLen at h1; omega
  have hcl' : C.length ≤ 9223372036854775807 := by have h1 : C.length ≤ maxLen := hcl; unfold maxLen at h1; omega
  clear hrl hcl hpl hnl
  generalize R.length = m at *
  generalize C.length = k at *
  generalize P.length = np at *
  generalize N.length = nn at *
  go_enter Try.func6, Try.ntmps6
  go_upto_region 1 with fail
  refine gen_world (fun W0 hW0 => ?_)
  have KC0 := hid (show W0.heap[w.heap.size]? = some (.cells C0 61) by rw [hW0]; exact heap_alloc_past _ _ _ _ (heap_alloc_past _ _ _ _ (heap_alloc_at _ _ _ rfl)))
  have KS0 := hid (show W0.heap[w.heap.size + 1]? = some (.cells #[.slice pa np pc, .slice na nn nc] 49) by rw [hW0]; exact heap_alloc_past _ _ _ _ (heap_alloc_at _ _ _ (by simp)))
  have KO0 := hid (show W0.heap[w.heap.size + 1 + 1]? = some (.cells #[.int .i64 lv, .slice ra m rc, .slice ca k cc, .int .i64 ev] 64) by rw [hW0]; exact heap_alloc_at _ _ _ (by simp))
  have HB0 := hid (show Below w.heap.size w W0 by rw [hW0]; exact (((Below.refl _ _).alloc (Nat.le_refl _) _).alloc (by simp) _).alloc (by simp; omega) _)
  clear hW0
  go_wp2_with (refine wpList_load_at rfl 49 (.tmp 4) rfl rfl KS0.out Try.underlying49 rfl size49 rfl ?_)
  refine (H17.out _ HB0.out).mono ?_
  rintro r w1 ⟨⟨hv, rfl⟩, hb⟩
  have KC1 := hid (heap_still hb KC0.out)
  have KS1 := hid (heap_still hb KS0.out)
  have KO1 := hid (heap_still hb KO0.out)
  have HB1 := hid (HB0.out.trans (hb.mono HB0.out.size))
  clear hb KC0 KS0 KO0 HB0
  cases hv
  case true =>
    go_wp2_with fail
    refine (pawake_any _).mono ?_
    rintro r w9 ⟨rfl, hb⟩
    go_wp2_with fail
    go_ret
    exact ⟨rfl, HB1.out.trans (hb.mono HB1.out.size)⟩
  case false =>
    have q1 : w1.cell? ⟨w.heap.size + 1 + 1, 1, none⟩ = some (.slice ra m rc) := (cell_row (j := 1) KO1.out).trans rfl
    have q2 : w1.cell? ⟨w.heap.size + 1 + 1, 2, none⟩ = some (.slice ca k cc) := (cell_row (j := 2) KO1.out).trans rfl
    by_cases hm : 80 < m
    · have d1 : decide ((80 : Int) < (m : Int)) = true := decide_eq_true (by omega)
      go_wp2_with fail
      refine (pawake_any _).mono ?_
      rintro r w9 ⟨rfl, hb⟩
      go_wp2_with fail
      go_ret
      exact ⟨rfl, HB1.out.trans (hb.mono HB1.out.size)⟩
    have d1 : decide ((80 : Int) < (m : Int)) = false := decide_eq_false (by omega)
    by_cases hk : 40 < k
    · have d2 : decide ((40 : Int) < (k : Int)) = true := decide_eq_true (by omega)
      go_wp2_with fail
      refine (pawake_any _).mono ?_
      rintro r w9 ⟨rfl, hb⟩
      go_wp2_with fail
      go_ret
      exact ⟨rfl, HB1.out.trans (hb.mono HB1.out.size)⟩
    have d2 : decide ((40 : Int) < (k : Int)) = false := decide_eq_false (by omega)
    have hbg : ∀ d os, Below w.heap.size w (Sort.grow (redrawn w1 d) os) := fun d os => HB1.out.trans ((below_regrown w1 d os).mono HB1.out.size)
    have K18 := hid (fun d os => H18.out (Sort.grow (redrawn w1 d) os))
    have K19 := hid (fun d os => H19.out (Sort.grow (redrawn w1 d) os))
    have K16 := hid (fun d os => H16.out _ (hbg d os))
    have K20 := hid (fun d os => H20.out _ (hbg d os))
    have K21 := hid (fun d os => H21.out _ (hbg d os))
    have K22 := hid (fun d os => H22.out _ (hbg d os))
    clear hbg
    go_wp2_with fail
    clear q1 q2
    have HKQ := hid (show ∀ W, (∃ p : Regrown, W = Sort.grow (redrawn w1 p.d) p.os) → W.heap[w.heap.size]? = some (.cells C0 61) by rintro W ⟨p, rfl⟩; exact heap_still (below_regrown w1 p.d p.os) KC1.out)
    have ks0 := cellsQ KS1.out 0 _ rfl
    have ks1 := cellsQ KS1.out 1 _ rfl
    have ko0 := cellsQ KO1.out 0 _ rfl
    have ko1 := cellsQ KO1.out 1 _ rfl
    have ko2 := cellsQ KO1.out 2 _ rfl
    have ko3 := cellsQ KO1.out 3 _ rfl
    refine wp_region_quiet_below (by kernel_rfl) (by kernel_rfl) ?_
    repeat (first | (go_big_quiet_want; refine quiet_load 61 (.tmp 3) rfl w.heap.size rfl HKQ.out Try.underlying61 rfl (by rw [HC0.out]; kernel_rfl) ?_; go_frame; go_big_quiet_on) | go_big_quiet_step (first | (go_at_call 18; with_reducible exact Calls.regrown_of (K18.out _ _)) | (go_at_call 19; with_reducible exact Calls.regrown_of (K19.out _ _)) | (go_at_call 16; with_reducible exact Calls.regrown_of (K16.out _ _)) | (go_at_call 20; with_reducible exact Calls.regrown_of (K20.out _ _)) | (go_at_call 21; with_reducible exact Calls.regrown_of (K21.out _ _)) | (go_at_call 22; with_reducible exact Calls.regrown_of (K22.out _ _)) | (go_at_call 9; exact Calls.regrown_of (pawake_any _))) | quiet_step (first | (go_at_call 18; with_reducible exact Calls.regrown_of (K18.out _ _)) | (go_at_call 19; with_reducible exact Calls.regrown_of (K19.out _ _)) | (go_at_call 16; with_reducible exact Calls.regrown_of (K16.out _ _)) | (go_at_call 20; with_reducible exact Calls.regrown_of (K20.out _ _)) | (go_at_call 21; with_reducible exact Calls.regrown_of (K21.out _ _)) | (go_at_call 22; with_reducible exact Calls.regrown_of (K22.out _ _)) | (go_at_call 9; exact Calls.regrown_of (pawake_any _))))
    refine wpQuiet_nil ?_
    intro _ hw'
    obtain ⟨⟨dq, osq⟩, hw''⟩ := hw'
    subst hw''
    go_wp2
    go_ret
    exact ⟨rfl, HB1.out.trans ((below_regrown w1 dq osq).mono HB1.out.size)⟩
theorem rows_xy {w : World} {b off n : Nat} (h : rows w b off 2 n (List.replicate 2 (some .i64))) : ∃ S : List Xy, S.length = n ∧ RowsAt w b off 2 (S.map Xy.row) := by
  obtain ⟨S, h1, h2⟩ := list_of (R := fun i (p : Xy) => ∀ j, j < 2 → w.cell? ⟨b, off + i * 2 + j, none⟩ = p.row[j]?) n (fun i hi => by
    obtain ⟨cs, hf, hc⟩ := h i hi
    obtain ⟨zs, hl, rfl⟩ := lawCells hf
    match zs, hl with
    | [z0, z1], _ => exact ⟨⟨z0, z1⟩, fun j hj => by
        match j, hj with
        | 0, _ | 1, _ => exact hc _ _ rfl⟩)
  refine ⟨S, h1, fun i r hi j hj => ?_⟩
  rw [List.getElem?_map] at hi
  obtain ⟨p, hp, rfl⟩ := Option.map_eq_some_iff.1 hi
  exact h2 i p hp j hj
theorem rows_is {w : World} {b off n : Nat} (h : rows w b off 1 n (List.replicate 1 (some .i64))) : ∃ l : List Int, l.length = n ∧ ∀ (i : Nat) (z : Int), l[i]? = some z → w.cell? ⟨b, off + i, none⟩ = some (.int .i64 z) := by
  obtain ⟨S, h1, h2⟩ := list_of (R := fun i (z : Int) => w.cell? ⟨b, off + i, none⟩ = some (.int .i64 z)) n (fun i hi => by
    obtain ⟨cs, hf, hc⟩ := h i hi
    obtain ⟨z, vs, rfl, _, h3⟩ := fits_int (show fitsW (some .i64 :: []) cs from hf)
    have := hc 0 _ rfl
    rw [Nat.mul_one] at this
    exact ⟨z, this⟩)
  exact ⟨S, h1, h2⟩
theorem flat3s : flatOf Try.prog 10 3 = some (List.replicate 1 (some .i64)) := by kernel_rfl
theorem size3s : (Try.prog.info? 3).map (·.size) = some (List.replicate 1 (some IntKind.i64)).length := by kernel_rfl
theorem flat137s : flatOf Try.prog 10 137 = some (List.replicate 2 (some .i64)) := by kernel_rfl
theorem size137s : (Try.prog.info? 137).map (·.size) = some (List.replicate 2 (some IntKind.i64)).length := by kernel_rfl
theorem cells64 : Try.prog.cellsOf 64 = 4 := by kernel_rfl
theorem cells3s : Try.prog.cellsOf 3 = 1 := by kernel_rfl
theorem cells62s : Try.prog.cellsOf 62 = 1 := by kernel_rfl
theorem cells36s : Try.prog.cellsOf 36 = 1 := by kernel_rfl
theorem cells49s : Try.prog.cellsOf 49 = 2 := by kernel_rfl
theorem cells46s : Try.prog.cellsOf 46 = 1 := by kernel_rfl
theorem cells47s : Try.prog.cellsOf 47 = 1 := by kernel_rfl
theorem cells51s : Try.prog.cellsOf 51 = 7 := by kernel_rfl
theorem cells38s : Try.prog.cellsOf 38 = 6 := by kernel_rfl
theorem cells35s : Try.prog.cellsOf 35 = 4 := by kernel_rfl
theorem flat45s : flatOf Try.prog 10 45 = some (none :: List.replicate 13 (some .i64)) := by kernel_rfl
theorem size45s : (Try.prog.info? 45).map (·.size) = some (none :: List.replicate 13 (some IntKind.i64) : List (Option IntKind)).length := by kernel_rfl
theorem flat35s : flatOf Try.prog 10 35 = some (List.replicate 4 (some .i64)) := by kernel_rfl
theorem flat61s : flatOf Try.prog 10 61 = some (List.replicate 22 (some .i64)) := by kernel_rfl
theorem size61s : (Try.prog.info? 61).map (·.size) = some (List.replicate 22 (some IntKind.i64)).length := by kernel_rfl
theorem bool_cells {ks : List (Option IntKind)} {cs : List Value} (h : fitsW (none :: ks) cs) : ∃ b vs, cs = .bool b :: vs ∧ fitsW ks vs := by
  cases cs with
  | nil => simp [fitsW] at h
  | cons v vs =>
    cases v with
    | bool b => exact ⟨b, vs, rfl, by simpa [fitsW] using h⟩
    | _ => simp [fitsW] at h
theorem int_cells : ∀ {n : Nat} {cs : List Value}, fitsW (List.replicate n (some .i64)) cs → ∃ zs : List Int, zs.length = n ∧ cs = zs.map (Value.int .i64)
  | 0, cs, h => ⟨[], rfl, fits_nil h⟩
  | n + 1, cs, h => by
    obtain ⟨z, vs, rfl, _, h2⟩ := fits_int (show fitsW (some .i64 :: List.replicate n (some .i64)) cs from h)
    obtain ⟨zs, h3, h4⟩ := int_cells h2
    exact ⟨z :: zs, by simp [h3], by simp [h4]⟩
theorem rows_nv {w : World} {b off n : Nat} (h : rows w b off 14 n (none :: List.replicate 13 (some .i64))) : ∃ S : List Nv, S.length = n ∧ RowsAt w b off 14 (S.map Nv.row) := by
  obtain ⟨S, h1, h2⟩ := list_of (R := fun i (p : Nv) => ∀ j, j < 14 → w.cell? ⟨b, off + i * 14 + j, none⟩ = p.row[j]?) n (fun i hi => by
    obtain ⟨cs, hf, hc⟩ := h i hi
    obtain ⟨b0, vs, rfl, hf2⟩ := bool_cells hf
    obtain ⟨zs, hl, rfl⟩ := int_cells hf2
    match zs, hl with
    | [z0, z1, z2, z3, z4, z5, z6, z7, z8, z9, z10, z11, z12], _ => exact ⟨⟨b0, z0, z1, z2, z3, z4, z5, z6, z7, z8, z9, z10, z11, z12⟩, fun j hj => by
        match j, hj with
        | 0, _ | 1, _ | 2, _ | 3, _ | 4, _ | 5, _ | 6, _ | 7, _ | 8, _ | 9, _ | 10, _ | 11, _ | 12, _ | 13, _ => exact hc _ _ rfl⟩)
  refine ⟨S, h1, fun i r hi j hj => ?_⟩
  rw [List.getElem?_map] at hi
  obtain ⟨p, hp, rfl⟩ := Option.map_eq_some_iff.1 hi
  exact h2 i p hp j hj
section
variable {H : Type} {enc : TypeId × Value → H} {w : World} {base : Nat} {spare : Nat → Bool} {held : Bool}
theorem open_agg64 {P : Program} {w : World} {r : Reach} {b0 : Nat} {t : TypeId} {n : Nat} {v : Value} (hs : P.cellsOf t = n) (hagg : (match P.underlying t with | some (.struct _) => true | some (.array _ _) => true | _ => false) = true) (hv : Value.okWide P w r b0 t v) :
    ∃ cs : List Value, v = .agg cs.toArray ∧ cs.length = n := by
  obtain ⟨cs, rfl, hsz⟩ : ∃ cs, v = .agg cs ∧ cs.size = P.cellsOf t := by
    unfold Value.okWide at hv
    split at hv
    · obtain ⟨cs, rfl, h, _⟩ := hv; exact ⟨cs, rfl, h⟩
    · obtain ⟨cs, rfl, h, _⟩ := hv; exact ⟨cs, rfl, h⟩
    · rename_i h1 h2
      split at hagg
      · rename_i fs he; exact absurd he (h1 fs)
      · rename_i n e he; exact absurd he (h2 n e)
      · simp at hagg
  exact ⟨cs.toList, by simp, by simpa [hs] using hsz⟩
theorem xys_cell {fuel : Nat} {v : Value} {x : DataW H × List MemPlace} (hx : DataW.trod enc Try.prog w base spare held fuel 62 [v] = some x) : ∃ R : List Xy, XysV w v R ∧ R.length ≤ maxLen := by
  obtain ⟨a, len, cap, rfl, hl, hn, hr⟩ := open_cell_rows Try.underlying62 flat137s size137s (by decide) hx
  by_cases h0 : len = 0
  · subst h0
    exact ⟨[], ⟨a, cap, rfl, Or.inl rfl⟩, by simp⟩
  · obtain ⟨b, off, rfl, hb, hrows⟩ := hr (by omega)
    obtain ⟨S, h1, h2⟩ := rows_xy hrows
    subst h1
    exact ⟨S, ⟨_, cap, rfl, Or.inr ⟨b, off, rfl, hb, h2⟩⟩, hl⟩
theorem ints_cells {fuel : Nat} {v : Value} {x : DataW H × List MemPlace} (hx : DataW.trod enc Try.prog w base spare held fuel 36 [v] = some x) : ∃ l : List Int, IntsV w v l ∧ l.length ≤ maxLen := by
  obtain ⟨a, len, cap, rfl, hl, hn, hr⟩ := open_cell_rows Try.underlying36 flat3s size3s (by decide) hx
  by_cases h0 : len = 0
  · subst h0
    exact ⟨[], ⟨a, cap, rfl, Or.inl rfl⟩, by simp⟩
  · obtain ⟨b, off, rfl, hb, hrows⟩ := hr (by omega)
    obtain ⟨S, h1, h2⟩ := rows_is hrows
    subst h1
    exact ⟨S, ⟨_, cap, rfl, Or.inr ⟨b, off, rfl, hb, h2⟩⟩, hl⟩
set_option maxRecDepth 100000 in
theorem open_order {r : Reach} {b0 : Nat} {v : Value} {d : DataW H} {p : List MemPlace} (hv : Value.okWide Try.prog w r b0 64 v) (h : DataW.Trod enc Try.prog w base spare held 64 v d p) :
    ∃ o : Od, v = .agg o.row.toArray ∧ OdV w o := by
  obtain ⟨cs, rfl, hsz⟩ := open_agg64 cells64 (by kernel_rfl) hv
  clear hv
  obtain ⟨fuel, hx⟩ := h
  match cs, hsz with
  | [c0, c1, c2, c3], _ =>
    obtain ⟨xs, m, _, _, _, hxl, hf⟩ := DataW.trod_struct Try.underlying64 (show DataW.trod enc Try.prog w base spare held fuel 64 _ = _ from by simpa [Value.cells] using hx)
    have h0 := hf 0 _ rfl
    rw [List.getElem?_eq_getElem (by rw [hxl]; decide)] at h0
    have h1 := hf 1 _ rfl
    rw [List.getElem?_eq_getElem (by rw [hxl]; decide)] at h1
    have h2 := hf 2 _ rfl
    rw [List.getElem?_eq_getElem (by rw [hxl]; decide)] at h2
    have h3 := hf 3 _ rfl
    rw [List.getElem?_eq_getElem (by rw [hxl]; decide)] at h3
    have k0 := trod_flat 10 3 _ _ _ _ flat3s (by simp [cells3s]) h0
    obtain ⟨p0, v0, e0, _, _⟩ := fits_int (show fitsW (some .i64 :: []) _ from k0)
    simp [cells3s] at e0
    obtain ⟨rfl, _⟩ := e0
    have k3 := trod_flat 10 3 _ _ _ _ flat3s (by simp [cells3s]) h3
    obtain ⟨p3, v3, e3, _, _⟩ := fits_int (show fitsW (some .i64 :: []) _ from k3)
    simp [cells3s] at e3
    obtain ⟨rfl, _⟩ := e3
    obtain ⟨R, r1, r2⟩ := xys_cell (v := c1) (by simpa [Value.cells, cells62s] using h1)
    obtain ⟨C, r3, r4⟩ := ints_cells (v := c2) (by simpa [Value.cells, cells36s] using h2)
    exact ⟨⟨p0, c1, R, c2, C, p3⟩, rfl, ⟨r1, r2, r3, r4⟩⟩
theorem navs_cell {fuel : Nat} {v : Value} {x : DataW H × List MemPlace} (hx : DataW.trod enc Try.prog w base spare held fuel 47 [v] = some x) :
    ∃ N : List Nv, (∃ a cap, v = .slice a N.length cap ∧ (N = [] ∨ ∃ b off, a = some ⟨b, off, none⟩ ∧ b < w.heap.size ∧ RowsAt w b off 14 (N.map Nv.row))) ∧ N.length ≤ maxLen := by
  obtain ⟨a, len, cap, rfl, hl, hn, hr⟩ := open_cell_rows Try.underlying47 flat45s size45s (by decide) hx
  by_cases h0 : len = 0
  · subst h0
    exact ⟨[], ⟨a, cap, rfl, Or.inl rfl⟩, by simp⟩
  · obtain ⟨b, off, rfl, hb, hrows⟩ := hr (by omega)
    obtain ⟨S, h1, h2⟩ := rows_nv hrows
    subst h1
    exact ⟨S, ⟨_, cap, rfl, Or.inr ⟨b, off, rfl, hb, h2⟩⟩, hl⟩
set_option maxRecDepth 100000 in
theorem nb_cells {fuel : Nat} {cs : List Value} {x : DataW H × List MemPlace} (hl : cs.length = 7) (hx : DataW.trod enc Try.prog w base spare held fuel 51 cs = some x) :
    ∃ p : Nb, cs = p.row ∧ IntsV w p.sv p.S ∧ p.S.length ≤ maxLen := by
  match cs, hl with
  | [c0, c1, c2, c3, c4, c5, c6], _ =>
    obtain ⟨xs, m, _, _, _, hxl, hf⟩ := DataW.trod_struct Try.underlying51 hx
    have h0 := hf 0 _ rfl
    rw [List.getElem?_eq_getElem (by rw [hxl]; decide)] at h0
    have h1 := hf 1 _ rfl
    rw [List.getElem?_eq_getElem (by rw [hxl]; decide)] at h1
    have k0 := trod_flat 10 3 _ _ _ _ flat3s (by simp [cells3s]) h0
    obtain ⟨p0, v0, e0, _, _⟩ := fits_int (show fitsW (some .i64 :: []) _ from k0)
    simp [cells3s] at e0
    obtain ⟨rfl, _⟩ := e0
    obtain ⟨ys, m', _, _, _, hyl, hg⟩ := DataW.trod_struct Try.underlying38 (show DataW.trod enc Try.prog w base spare held m 38 [c1, c2, c3, c4, c5, c6] = _ from by simpa [cells38s, cells3s] using h1)
    have g0 := hg 0 _ rfl
    rw [List.getElem?_eq_getElem (by rw [hyl]; decide)] at g0
    have g1 := hg 1 _ rfl
    rw [List.getElem?_eq_getElem (by rw [hyl]; decide)] at g1
    have g2 := hg 2 _ rfl
    rw [List.getElem?_eq_getElem (by rw [hyl]; decide)] at g2
    have k1 := trod_flat 10 3 _ _ _ _ flat3s (by simp [cells3s]) g0
    obtain ⟨p1, v1, e1, _, _⟩ := fits_int (show fitsW (some .i64 :: []) _ from k1)
    simp [cells3s] at e1
    obtain ⟨rfl, _⟩ := e1
    have k2 := trod_flat 10 35 _ _ _ _ flat35s (by simp [cells35s]) g1
    obtain ⟨zs, hzl, e2⟩ := int_cells (n := 4) k2
    simp [cells35s] at e2
    match zs, hzl with
    | [z1, z2, z3, z4], _ =>
      simp at e2
      obtain ⟨rfl, rfl, rfl, rfl⟩ := e2
      obtain ⟨X, r3, r4⟩ := ints_cells (v := c6) (by simpa [Value.cells, cells36s] using g2)
      exact ⟨⟨p0, p1, z1, z2, z3, z4, c6, X⟩, rfl, r3, r4⟩
set_option maxRecDepth 100000 in
theorem nbs_cell {fuel : Nat} {v : Value} {x : DataW H × List MemPlace} (hx : DataW.trod enc Try.prog w base spare held fuel 46 [v] = some x) :
    ∃ P : List Nb, (∃ a cap, v = .slice a P.length cap ∧ (P = [] ∨ ∃ b off, a = some ⟨b, off, none⟩ ∧ b < w.heap.size ∧ RowsAt w b off 7 (P.map Nb.row))) ∧ (∀ p ∈ P, IntsV w p.sv p.S) ∧ (∀ p ∈ P, p.S.length ≤ maxLen) ∧ P.length ≤ maxLen := by
  rcases Go.Deep.open_slice Try.underlying46 hx with ⟨h0, _⟩ | ⟨a, len', cap', m, n, D, Pl, h1, hb, hl, hm, hmm, _, hall⟩
  · simp at h0
    subst h0
    exact ⟨[], ⟨none, 0, rfl, Or.inl rfl⟩, fun e he => by simp at he, fun e he => by simp at he, by simp⟩
  · simp at h1
    subst h1
    by_cases h0 : len' = 0
    · subst h0
      exact ⟨[], ⟨_, _, rfl, Or.inl rfl⟩, fun e he => by simp at he, fun e he => by simp at he, by simp⟩
    have hle : len' ≤ m := by rw [hmm]; split <;> omega
    rw [cells51s] at hall
    obtain ⟨E, h1, h2⟩ := list_of (R := fun i (e : Nb) => (IntsV w e.sv e.S ∧ e.S.length ≤ maxLen) ∧ ∀ j, j < 7 → w.cell? ((a.add (i * 7)).add j) = e.row[j]?) len' (fun i hi => by
      obtain ⟨cs, hc, ht⟩ := hall i (by omega)
      obtain ⟨_, hlen, hcell⟩ := World.cells?_some hc
      obtain ⟨e, rfl, h5, h6⟩ := nb_cells hlen ht
      exact ⟨e, ⟨h5, h6⟩, hcell⟩)
    subst h1
    obtain ⟨b, off, spot⟩ := a
    have hpos : 0 < E.length := by omega
    have hspot : spot = none := by
      have h0 := (h2 0 _ (List.getElem?_eq_getElem hpos)).2 0 (by omega)
      exact (by simpa [Addr.add] using World.cell?_spot (v := .int .i64 (E[0]).sq) (h0.trans rfl))
    subst hspot
    have hr : RowsAt w b off 7 (E.map Nb.row) := fun i r hi j hj => by
      rw [List.getElem?_map] at hi
      obtain ⟨e, he, rfl⟩ := Option.map_eq_some_iff.1 hi
      rw [← (h2 i e he).2 j hj, ← Go.WideShapes.add_plain, ← Go.WideShapes.add_plain]
    have hb : b < w.heap.size := by
      have h0 := hr 0 (E[0]).row (by simp [List.getElem?_map, List.getElem?_eq_getElem hpos]) 0 (by omega)
      exact cell_lt (h0.trans rfl)
    have hall' : ∀ e ∈ E, IntsV w e.sv e.S ∧ e.S.length ≤ maxLen := fun e he => by
      obtain ⟨i, hi, rfl⟩ := List.mem_iff_getElem.1 he
      exact (h2 i _ (List.getElem?_eq_getElem hi)).1
    exact ⟨E, ⟨_, _, rfl, Or.inr ⟨b, off, rfl, hb, hr⟩⟩, fun e he => (hall' e he).1, fun e he => (hall' e he).2, by omega⟩
set_option maxRecDepth 100000 in
theorem open_strip {r : Reach} {b0 : Nat} {v : Value} {d : DataW H} {p : List MemPlace} (hv : Value.okWide Try.prog w r b0 49 v) (h : DataW.Trod enc Try.prog w base spare held 49 v d p) :
    ∃ (pv nv : Value) (P : List Nb) (N : List Nv), v = .agg #[pv, nv] ∧ StV w pv P nv N := by
  obtain ⟨cs, rfl, hsz⟩ := open_agg64 cells49s (by kernel_rfl) hv
  clear hv
  obtain ⟨fuel, hx⟩ := h
  match cs, hsz with
  | [c0, c1], _ =>
    obtain ⟨xs, m, _, _, _, hxl, hf⟩ := DataW.trod_struct Try.underlying49 (show DataW.trod enc Try.prog w base spare held fuel 49 _ = _ from by simpa [Value.cells] using hx)
    have h0 := hf 0 _ rfl
    rw [List.getElem?_eq_getElem (by rw [hxl]; decide)] at h0
    have h1 := hf 1 _ rfl
    rw [List.getElem?_eq_getElem (by rw [hxl]; decide)] at h1
    obtain ⟨P, r1, r2, r3, r4⟩ := nbs_cell (v := c0) (by simpa [Value.cells, cells46s] using h0)
    obtain ⟨N, r5, r6⟩ := navs_cell (v := c1) (by simpa [Value.cells, cells47s] using h1)
    exact ⟨c0, c1, P, N, rfl, ⟨r1, r5, r2, r3, r4, r6⟩⟩
end
set_option maxRecDepth 100000 in
theorem plantValid_lifted (os : Os) (started : os.Started) (H : Type) (enc : TypeId × Value → H) :
    ReturnsInHanded {} Try.checked os 6 .any (Rows.plantValidSpec.pre6 enc Try.prog Try.f6 Rows.plantValidRow.domain false) (Rows.plantValidSpec.post enc Try.prog Try.f6 false true false false) := by
  refine law_lifted (C := Try.checked) (tb := 4) lawOwn started (by kernel_rfl) Try.func6 rfl ?_ (show Try.f6.resultTypes = #[4] by kernel_rfl) Try.underlying4 lawLaid ?_
    (ChangeSpec.witness6 (enc := enc) (C := Try.checked) false ⟨#[], #[.agg #[.int .i64 0, .int .i64 0, .int .i64 0, .int .i64 0, .int .i64 0, .int .i64 0, .int .i64 0, .int .i64 0, .int .i64 0, .int .i64 0, .int .i64 0, .int .i64 0, .int .i64 0, .int .i64 0, .int .i64 0, .int .i64 0, .int .i64 0, .int .i64 0, .int .i64 0, .int .i64 0, .int .i64 0, .int .i64 0], .agg #[.slice none 0 0, .slice none 0 0], .agg #[.int .i64 0, .slice none 0 0, .slice none 0 0, .int .i64 0]], []⟩ 8 (by kernel_rfl) (by kernel_rfl) (by kernel_rfl) (by kernel_rfl)) ?_
  · intro ds hds
    match ds, hds with
    | [d1, d2, d3], _ => exact ⟨rfl, rfl, rfl⟩
  · rw [Try.params6]
    intro t ht
    simp at ht
    rcases ht with rfl | rfl | rfl
    all_goals exact ⟨by kernel_rfl, of_decide_eq_true (by kernel_rfl)⟩
  · intro W base args ds p hval hA hlt hsz
    change DataW.TrodAll enc Try.prog W 0 (fun _ => true) true Try.f6.params.toList args.toList ds p at hA
    change ∀ (j : Nat) t v, Try.f6.params[j]? = some t → args[j]? = some v → Value.okWide Try.prog W .any base t v at hval
    rw [Try.params6] at hA hval
    obtain ⟨v0, vs0, d0, ds0, p0, q0, hargs, rfl, rfl, h0, r0⟩ := trodAll_cons hA
    obtain ⟨v1, vs1, d1, ds1, p1, q1, rfl, rfl, rfl, h1, r1⟩ := trodAll_cons r0
    obtain ⟨v2, vs2, d2, ds2, p2, q2, rfl, rfl, rfl, h2, r2⟩ := trodAll_cons r1
    obtain ⟨rfl, rfl, rfl⟩ := trodAll_nil r2
    obtain rfl : args = #[v0, v1, v2] := by cases args; simp_all
    obtain ⟨cs, rfl, hf⟩ := open_flat flat61s size61s (by kernel_rfl) (hval 0 61 v0 rfl rfl) h0
    obtain ⟨zs, hzl, rfl⟩ := int_cells (n := 22) hf
    obtain ⟨pv, nv, P, N, rfl, hS⟩ := open_strip (hval 1 49 v1 rfl rfl) h1
    obtain ⟨o, rfl, hO⟩ := open_order (hval 2 64 v2 rfl rfl) h2
    match zs, hzl with
    | [z0, z1, z2, z3, z4, z5, z6, z7, z8, z9, z10, z11, z12, z13, z14, z15, z16, z17, z18, z19, z20, z21], _ => exact valid_law z0 z1 z2 z3 z4 z5 z6 z7 z8 z9 z10 z11 z12 z13 z14 z15 z16 z17 z18 z19 z20 z21 pv nv P N o W hS hO
/-- PlantValid, whatever the input. -/
theorem plantValid_holds : Rows.PlantValidSaid :=
  OpenClaim.holds_of_wide 6 Try.f6 rfl rfl rfl rfl rfl rfl rfl ⟨rfl, rfl, rfl, rfl, rfl⟩ rfl rfl rfl rfl rfl (by kernel_rfl) Try.func6 (by kernel_rfl)
    (of_decide_eq_true (by kernel_rfl)) (by unfold Func.isWrapper; rw [if_neg (of_decide_eq_false (by kernel_rfl))]; exact ⟨rfl, rfl⟩)
    (fun os started H enc _ => plantValid_lifted os started H enc)
#print axioms plantValid_holds
end Go.Proofs.Ytpablkmdpoombaa
