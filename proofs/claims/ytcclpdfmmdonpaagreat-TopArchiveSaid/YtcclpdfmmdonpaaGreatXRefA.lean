/- The reference's archive: NewArchive (8), Last (10), Find (28); and Versions (19) of the program's. Shows (15): an archive shows what the reference has. -/
import Derived.Test.YtcclpdfmmdonpaaGreatXArcW
import Derived.Test.YtcclpdfmmdonpaaGreatXByt
import Derived.Test.YtcclpdfmmdonpaaGreatXRpl
namespace Go.Proofs.YtcclpdfmmdonpaaGreat
open Go.RowKit Go.WideShapes Go.ChangeAt Go.Maps Go.Sort
theorem OwnP.keep {W W' : World} {B : Nat} {v : Value} {l : List Pt} (h : OwnP W B v l) (hb : Below W.heap.size W W') : OwnP W' B v l := OwnR.grow h hb
def versL (f : Int) (n : Nat) : List Int := (List.range n).map (fun (i : Nat) => f + (i : Int))
theorem versL_len (f : Int) (n : Nat) : (versL f n).length = n := by simp [versL]
theorem versL_at {f : Int} {n i : Nat} (h : i < n) : (versL f n)[i]? = some (f + (i : Int)) := by simp [versL, h]
theorem versL_snoc (f : Int) (n : Nat) : versL f (n + 1) = versL f n ++ [f + (n : Int)] := by simp [versL, List.range_succ]
theorem OwnI.at {W : World} {B : Nat} {v : Value} {l : List Int} {i : Nat} {z : Int} (h : OwnI W B v l) (hz : l[i]? = some z) : ∃ g c, v = .slice (some ⟨g, 0, none⟩) l.length c /\ W.cell? ⟨g, i, none⟩ = some (.int .i64 z) := by
  obtain ⟨hi, rfl⟩ := List.getElem?_eq_some_iff.1 hz; obtain ⟨g, cap, cur, e1, _, _, e2, _⟩ := h.rows (by simp; omega); refine ⟨g, cap, by simpa using e1, ?_⟩; have := e2 i [.int .i64 l[i]] (by simp [iRow, hi]) 0 (by omega); simpa using this
theorem size33 : (Tryz.prog.info? 33).map (·.size) = some 3 := by kernel_rfl
def rfRow (c : Int) (vv pv : Value) : Array Value := #[.int .i64 c, vv, pv]
set_option maxRecDepth 100000 in
theorem rnew_any (c : Int) (w : World) :
    Calls Tryz.prog 8 #[.int .i64 c] w fun r w' => (∃ vv pv, r = .returned (.agg (rfRow c vv pv)) /\ OwnI w' w.heap.size vv (versL 0 1) /\ OwnV w' w.heap.size pv [[]]) /\ Below w.heap.size w w' := by
  go_enter Tryz.func8, Tryz.ntmps8; go_wp2_with (refine wpList_store_at rfl 33 (.tmp 2) (.tmp 6) rfl rfl rfl (by exact (by repeat' (first | (refine heap_alloc_at _ _ _ ?_; (first | rfl | (simp; done) | (simp; omega))) | (refine heap_alloc_past _ _ _ _ ?_)))) size33 rfl rfl rfl ?_); obtain ⟨X, hX⟩ : ∃ X, X = ((w.alloc (.cells #[.int .i64 0, .slice none 0 0, .slice none 0 0] 33)).alloc (.cells #[.int .i64 0] 3)).alloc (.cells #[.slice none 0 0] 35) := ⟨_, rfl⟩; have h0 : X.heap[w.heap.size]? = some (.cells #[.int .i64 0, .slice none 0 0, .slice none 0 0] 33) := by rw [hX]; exact (by repeat' (first | (refine heap_alloc_at _ _ _ ?_; (first | rfl | (simp; done) | (simp; omega))) | (refine heap_alloc_past _ _ _ _ ?_)))
  have h1 : X.heap[w.heap.size + 1]? = some (.cells #[.int .i64 0] 3) := by rw [hX]; exact (by repeat' (first | (refine heap_alloc_at _ _ _ ?_; (first | rfl | (simp; done) | (simp; omega))) | (refine heap_alloc_past _ _ _ _ ?_)))
  have h2 : X.heap[w.heap.size + 1 + 1]? = some (.cells #[.slice none 0 0] 35) := by rw [hX]; exact (by repeat' (first | (refine heap_alloc_at _ _ _ ?_; (first | rfl | (simp; done) | (simp; omega))) | (refine heap_alloc_past _ _ _ _ ?_)))
  have hb : Below w.heap.size w X := by rw [hX]; (focus ((repeat' (first | (with_reducible first | exact Below.refl _ _ | assumption | refine Below.alloc ?_ ?_ _ | refine Below.drew ?_ | refine below_drewN ?_ _ | refine Below.setCell ?_ ?_ _ | refine below_setRow ?_ ?_ _) | go_size)); done))
  rw [<- hX]; clear hX; refine bodyPost_ret (results_at1 rfl rfl (setRow_heap _ _ _ _ _ _ h0) Tryz.underlying33 rfl size33 rfl) rfl ?_; have hfr : Fr (fun k => k = w.heap.size) X (X.setRow w.heap.size #[.int .i64 c, .slice (some ⟨w.heap.size + 1, 0, none⟩) 1 1, .slice (some ⟨w.heap.size + 1 + 1, 0, none⟩) 1 1]) := Fr.row; have e1 : (versL 0 1).map iRow = [[.int .i64 0]] := rfl; refine ⟨⟨_, _, rfl, ?_, ?_⟩, below_setRow hb (Nat.le_refl _) _⟩
  · unfold OwnI; rw [e1]; refine OwnR.other ⟨Wide.one rfl (fun u hu => by rw [List.mem_singleton.1 hu]; rfl), rfl, .inr ⟨w.heap.size + 1, 1, _, rfl, Nat.le_succ _, h1, Nat.le_refl _, by unfold maxLen; omega, rfl, rfl⟩⟩ h0 (by decide) hfr
  · refine ⟨[⟨.slice none 0 0, []⟩], rfl, OwnR.other ⟨Wide.one rfl (fun u hu => by rw [List.mem_singleton.1 hu]; rfl), rfl, .inr ⟨w.heap.size + 1 + 1, 1, _, rfl, by omega, h2, Nat.le_refl _, by unfold maxLen; omega, rfl, rfl⟩⟩ h0 (by decide) hfr, fun e he => ?_⟩; rw [List.mem_singleton.1 he]; exact OwnR.nil _ _ _ _
set_option maxRecDepth 100000 in
theorem rlast_any (B : Nat) (c f : Int) (vv pv : Value) (L : List (List Pt)) (p : List Pt) (n : Nat) (w : World) (hv : OwnI w B vv (versL f L.length)) (hp : OwnV w B pv L) (hn : L.length = n + 1) (hn2 : n <= 1000000) (hpl : L[n]? = some p) :
    Calls Tryz.prog 10 #[.agg (rfRow c vv pv)] w fun r w' => (∃ x, r = .returned (.tuple #[.int .i64 (f + (n : Int)), x]) /\ OwnP w' B x p) /\ Below w.heap.size w w' := by
  obtain ⟨g1, c1, rfl, h1⟩ := OwnI.at hv (versL_at (by omega : n < L.length)); obtain ⟨g2, c2, x, rfl, h2, hx⟩ := hp.at hpl; rw [versL_len]; have HX := hid hx; have H1 := hid h1; have H2 := hid h2; obtain ⟨m, hm⟩ : ∃ m, m = L.length := ⟨_, rfl⟩; rw [<- hm] at hn ⊢; have hip : n < m := by omega
  have hpi : (m : Int) - 1 = (n : Int) := by omega
  clear hv hp hpl hx h1 h2 hn hm; unfold rfRow; go_enter Tryz.func10, Tryz.ntmps10; go_upto_region 2 with fail; refine gen_world (fun W1 hW1 => ?_); have KB := hid (show W1.heap[w.heap.size]? = some (.cells #[.int .i64 c, .slice (some ⟨g1, 0, none⟩) m c1, .slice (some ⟨g2, 0, none⟩) m c2] 33) by rw [hW1]; exact (by repeat' (first | (refine heap_alloc_at _ _ _ ?_; (first | rfl | (simp; done) | (simp; omega))) | (refine heap_alloc_past _ _ _ _ ?_)))); have HB1 := hid (show Below w.heap.size w W1 by rw [hW1]; (focus ((repeat' (first | (with_reducible first | exact Below.refl _ _ | assumption | refine Below.alloc ?_ ?_ _ | refine Below.drew ?_ | refine below_drewN ?_ _ | refine Below.setCell ?_ ?_ _ | refine below_setRow ?_ ?_ _) | go_size)); done))); clear hW1; have q1 := fun d os => cell_regrown (show W1.cell? ⟨w.heap.size, 1, none⟩ = some (.slice (some ⟨g1, 0, none⟩) m c1) from (cell_row (j := 1) KB.out).trans rfl) d os
  have q2 := fun d os => cell_regrown (show W1.cell? ⟨w.heap.size, 2, none⟩ = some (.slice (some ⟨g2, 0, none⟩) m c2) from (cell_row (j := 2) KB.out).trans rfl) d os
  have q3 := fun d os => cell_regrown (show W1.cell? ⟨g1, n, none⟩ = some (.int .i64 (f + (n : Int))) by rw [HB1.out.cell (block_lt_of_cell H1.out)]; exact H1.out) d os
  have q4 := fun d os => cell_regrown (show W1.cell? ⟨g2, n, none⟩ = some x by rw [HB1.out.cell (block_lt_of_cell H2.out)]; exact H2.out) d os
  have HX1 := hid (show OwnP W1 B x p from OwnR.grow HX.out HB1.out); refine wp_region_quiet_below (by kernel_rfl) (by kernel_rfl) ?_
  repeat (first | go_big_quiet_step (fail) | quiet_step (fail))
  refine wpQuiet_nil ?_; intro _ hw'; obtain ⟨⟨dqV, osV⟩, hw2⟩ := hw'; subst hw2; have HQV := hid (below_regrown W1 dqV osV); generalize Sort.grow (redrawn W1 dqV) osV = V at HQV ⊢; have HB2 := hid (HB1.out.trans (HQV.out.mono HB1.out.size)); have HX2 := hid (show OwnP V B x p from OwnR.grow HX1.out HQV.out); clear q1 q2 q3 q4; go_wp2_with fail; go_ret2; exact ⟨⟨_, rfl, HX2.out⟩, HB2.out⟩
def FindPost (B : Nat) (f v : Int) (L : List (List Pt)) (w : World) (r : Ending) (w' : World) : Prop :=
  ((∃ (i : Nat) (p : List Pt) (x : Value), L[i]? = some p /\ v = f + (i : Int) /\ r = .returned (.tuple #[x, .bool true]) /\ OwnP w' B x p) ∨ ((v < f ∨ f + (L.length : Int) <= v) /\ r = .returned (.tuple #[.slice none 0 0, .bool false]))) /\ Below w.heap.size w w'
set_option maxRecDepth 100000 in
set_option maxHeartbeats 1600000 in
theorem rfind_any (B : Nat) (c f v : Int) (vv pv : Value) (L : List (List Pt)) (w : World) (hv : OwnI w B vv (versL f L.length)) (hp : OwnV w B pv L) (hn : L.length <= 1000000) (_hf : 0 <= f /\ f <= 1000000) :
    Calls Tryz.prog 28 #[.agg (rfRow c vv pv), .int .i64 v] w fun r w' => FindPost B f v L w r w' := by
  obtain ⟨va, vc, hvv⟩ := OwnR.slice hv; obtain ⟨pa, pc, hpv⟩ := hp.slice; obtain ⟨m, hm⟩ : ∃ m, m = L.length := ⟨_, rfl⟩; rw [List.length_map, versL_len] at hvv; rw [<- hm] at hvv hpv hn; subst hvv hpv
  have HV := hid (show ∀ i, i < m -> ∃ g, va = some ⟨g, 0, none⟩ /\ w.cell? ⟨g, i, none⟩ = some (.int .i64 (f + (i : Int))) from fun i hi => by
    obtain ⟨g1, c1, e1, h1⟩ := OwnI.at hv (versL_at (by omega : i < L.length)); injection e1 with e1
    exact ⟨g1, e1, h1⟩)
  have HP := hid (show ∀ i p, L[i]? = some p -> ∃ g x, pa = some ⟨g, 0, none⟩ /\ w.cell? ⟨g, i, none⟩ = some x /\ OwnP w B x p from fun i p hi => by
    obtain ⟨g1, c1, x, e1, h1, h2⟩ := hp.at hi; injection e1 with e1
    exact ⟨g1, x, e1, h1, h2⟩)
  have HM := hid hm; clear hv hp hm; unfold rfRow; go_enter Tryz.func28, Tryz.ntmps28; go_upto_region 1 with fail; refine gen_world (fun W1 hW1 => ?_); have KB := hid (show W1.heap[w.heap.size]? = some (.cells #[.int .i64 c, .slice va m vc, .slice pa m pc] 33) by rw [hW1]; exact (by repeat' (first | (refine heap_alloc_at _ _ _ ?_; (first | rfl | (simp; done) | (simp; omega))) | (refine heap_alloc_past _ _ _ _ ?_)))); have HB1 := hid (show Below w.heap.size w W1 by rw [hW1]; (focus ((repeat' (first | (with_reducible first | exact Below.refl _ _ | assumption | refine Below.alloc ?_ ?_ _ | refine Below.drew ?_ | refine below_drewN ?_ _ | refine Below.setCell ?_ ?_ _ | refine below_setRow ?_ ?_ _) | go_size)); done))); have HS1 := hid (show w.heap.size < W1.heap.size by rw [hW1]; simp); clear hW1; have q1 : W1.cell? ⟨w.heap.size, 1, none⟩ = some (.slice va m vc) := (cell_row (j := 1) KB.out).trans rfl; go_wp2_with fail; clear q1
  go_loopw [11] (fun iv W => ∃ k : Nat, k <= m /\ iv = .int .i64 (k : Int) /\ (v < f ∨ f + (k : Int) <= v) /\ Below W1.heap.size W1 W) (fun iv _ => m - (intOf iv).toNat)
  case atStart => exact ⟨0, by omega, rfl, by omega, Below.refl _ _⟩
  case round =>
    obtain ⟨k, hk, rfl, hno, hB⟩ := hrel; have HBW := hid hB; have HNO := hid hno; by_cases hlt : k < m
    · obtain ⟨g1, rfl, h1⟩ := HV.out k hlt; have d1 : decide ((k : Int) < (m : Int)) = true := decide_eq_true (by omega); have hk0 : (0 : Int) <= (k : Int) := by omega
      have HBT := hid (HB1.out.trans (hB.mono HB1.out.size)); have h1w : wr.cell? ⟨g1, k, none⟩ = some (.int .i64 (f + (k : Int))) := by rw [HBT.out.cell (block_lt_of_cell h1)]; exact h1
      clear hB hno h1; by_cases he : v = f + (k : Int)
      · have d2 : (f + (k : Int) == v) = true := by simp [he]
        obtain ⟨p, hpk⟩ : ∃ p, L[k]? = some p := ⟨_, List.getElem?_eq_getElem (by rw [<- HM.out]; exact hlt)⟩; obtain ⟨g2, x, rfl, h2, hx⟩ := HP.out k p hpk; have HX := hid (show OwnP wr B x p from OwnR.grow hx HBT.out); have HPK := hid hpk; have HE := hid he; have h2w : wr.cell? ⟨g2, k, none⟩ = some x := by rw [HBT.out.cell (block_lt_of_cell h2)]; exact h2
        have q2 : wr.cell? ⟨w.heap.size, 2, none⟩ = some (.slice (some ⟨g2, 0, none⟩) m pc) := by rw [HBW.out.cell (block_lt_of_cell ((cell_row (j := 2) KB.out).trans rfl))]; exact (cell_row (j := 2) KB.out).trans rfl
        clear h2 hx hpk he; go_wp2_with fail; go_ret2; exact ⟨.inl ⟨k, p, x, HPK.out, HE.out, rfl, HX.out⟩, HBT.out⟩
      · have d2 : (f + (k : Int) == v) = false := by simp; omega
        have HE := hid he; clear he; go_wp2_with fail; exact ⟨⟨k + 1, by omega, by go_num, by have := HNO.out; have := HE.out; omega, HBW.out⟩, by simp [intOf]; omega⟩
    · obtain rfl : k = m := by omega
      have d1 : decide ((k : Int) < (k : Int)) = false := by simp
      clear hB; have HBT := hid (HB1.out.trans (HBW.out.mono HB1.out.size)); go_wp2_with fail; go_ret2; exact ⟨.inr ⟨by rw [<- HM.out]; exact HNO.out, rfl⟩, HBT.out⟩
set_option maxRecDepth 100000 in
set_option maxHeartbeats 1600000 in
theorem xversions_any (B g gd : Nat) (a : Ac) (bv sv pv : Value) (w : World) (h : ArcV w B g gd a bv sv pv) (hs : Small a) :
    Calls Tryz.prog 19 #[.pointer (some ⟨g, 0, none⟩)] w fun r w' => (∃ v, r = .returned v /\ OwnI w' w.heap.size v (versL a.lg.first a.pts.length)) /\ Below w.heap.size w w' := by
  have HN := hid (xanone_any B g gd a bv sv pv w h); have hf := hs.first; have hpl := hs.pts; obtain ⟨pa, pc, rfl⟩ := h.pts.slice; have H := hid h; obtain ⟨n, hn⟩ : ∃ n, n = a.pts.length := ⟨_, rfl⟩; rw [<- hn] at hpl H ⊢; obtain ⟨f, hff⟩ : ∃ f, f = a.lg.first := ⟨_, rfl⟩; rw [<- hff] at hf ⊢; have HC2 := hid (show ∀ W, Below w.heap.size w W -> W.cell? ⟨g, 2, none⟩ = some (.int .i64 f) from fun W hb => by rw [(H.out.still hb).cell 2]; simp [arcRow, hff]); have HC7 := hid (show ∀ W, Below w.heap.size w W -> W.cell? ⟨g, 7, none⟩ = some (.slice pa n pc) from fun W hb => by rw [(H.out.still hb).cell 7]; simp [arcRow]); clear H h hs hn hff; obtain ⟨i0, hinf, hz0, hz1, hz2⟩ := info_parts cinfo3; have HI := hid hinf; have HZ0 := hid hz0; have HZ1 := hid hz1; have HZ2 := hid hz2; clear hinf hz0 hz1 hz2; go_enter Tryz.func19, Tryz.ntmps19; go_wp2_with fail; refine HN.out.mono ?_; rintro r w1 ⟨rfl, hb⟩; have HB := hid hb; have q7 := HC7.out _ hb; clear hb; go_wp2_with fail; clear q7
  go_loopw [3, 13] (fun ov iv W => ∃ k : Nat, k <= n /\ iv = .int .i64 (k : Int) /\ OwnI W w.heap.size ov (versL f k) /\ Below w.heap.size w W) (fun _ iv _ => n - (intOf iv).toNat)
  case atStart => exact ⟨0, by omega, rfl, OwnR.nil _ _ _ _, HB.out⟩
  case round =>
    obtain ⟨k, hk, rfl, ho, hB⟩ := hrel; have HBW := hid hB; have HO := hid ho; obtain ⟨oa, oc, hov⟩ := OwnR.slice ho; obtain ⟨on, hon⟩ : ∃ x, x = ((versL f k).map iRow).length := ⟨_, rfl⟩; rw [<- hon] at hov; have HON := hid (show on = k by rw [hon, List.length_map, versL_len]); subst hov; clear hon ho; have q2 := HC2.out _ hB; by_cases hlt : k < n
    · have d1 : decide ((k : Int) < (n : Int)) = true := decide_eq_true (by omega); have hk0 : (0 : Int) <= (k : Int) := by omega
      have HOA := hid (OwnR.grow HO.out ((Below.refl _ _).alloc (Nat.le_refl _) (.cells #[.int .i64 (f + (k : Int))] 3))); have HRW := hid (RowsAt.one (heap_alloc_at wr (.cells #[.int .i64 (f + (k : Int))] 3) _ rfl) : RowsAt (wr.alloc (.cells #[.int .i64 (f + (k : Int))] 3)) wr.heap.size 0 1 [[.int .i64 (f + (k : Int))]]); have HBA := hid (show Below w.heap.size w (wr.alloc (.cells #[.int .i64 (f + (k : Int))] 3)) from HBW.out.alloc HBW.out.size _); have HL1 := hid (show ((versL f k).map iRow).length + [[Value.int .i64 (f + (k : Int))]].length <= maxLen by rw [List.length_map, versL_len, List.length_singleton]; unfold maxLen; omega); have HL2 := hid (show (((versL f k).map iRow).length + [[Value.int .i64 (f + (k : Int))]].length) * 8 <= 140737488355328 by rw [List.length_map, versL_len, List.length_singleton]; omega); clear hB
      go_wp2_with (first
        | (at_builtin
           go_loud (refine wpList_append_rows rfl (.tmp 16) (.tmp 25) 30 rfl w.heap.size 3 i0 _ 1 8 Tryz.underlying30 HI.out HZ0.out HZ1.out HZ2.out rfl (by decide) _ ((versL f k).map iRow) [[.int .i64 (f + (k : Int))]] rfl HOA.out wr.heap.size 0 1 1 rfl rfl HRW.out (Wide.one rfl (fun u hu => by rw [List.mem_singleton.1 hu]; rfl)) HL1.out HL2.out HBA.out.size ?_)
           intro v9 w9 hown9 hg9 z9; clear z9; have HO9 := hid (show OwnI w9 w.heap.size v9 (versL f (k + 1)) by unfold OwnI; rw [versL_snoc, List.map_append]; exact hown9); have HB9 := hid (show Below w.heap.size w w9 from HBA.out.grown hg9 HBA.out.size (fun j hj => OwnR.ownBlock HOA.out j hj))
           clear hown9 hg9))
      exact ⟨⟨k + 1, by omega, by go_num, HO9.out, HB9.out⟩, by simp [intOf]; omega⟩
    · obtain rfl : k = n := by omega
      have d1 : decide ((k : Int) < (k : Int)) = false := by simp
      clear hB; go_wp2_with fail; go_ret; exact ⟨⟨_, rfl, HO.out⟩, HBW.out⟩
open Go.RowKit Go.WideShapes Go.ChangeAt Go.Maps Go.Sort
set_option maxRecDepth 100000 in
set_option maxHeartbeats 3200000 in
theorem shows_any (B B2 g gd : Nat) (a : Ac) (bv sv pv vv rv : Value) (c : Int) (w : World) (h : ArcV w B g gd a bv sv pv) (hs : Small a) (hv : OwnI w B2 vv (versL a.lg.first a.pts.length)) (hr : OwnV w B2 rv a.pts) (h0 : 0 < a.pts.length) :
    Calls Tryz.prog 15 #[.pointer (some ⟨g, 0, none⟩), .agg (rfRow c vv rv)] w fun r w' => r = .returned (.bool true) /\ Below w.heap.size w w' := by
  obtain ⟨n, hn⟩ : ∃ n, a.pts.length = n + 1 := ⟨a.pts.length - 1, by omega⟩; obtain ⟨P, hP⟩ : ∃ P, a.pts[n]? = some P := ⟨_, List.getElem?_eq_getElem (by omega)⟩; have hfs := hs.first; have hpl := hs.pts; have HLA := hid (fun W (hb : Below w.heap.size w W) => rlast_any B2 c a.lg.first vv rv a.pts P n W (OwnR.grow hv hb) (hr.still hb) hn (by omega) hP); have HVE := hid (fun W (hb : Below w.heap.size w W) => xversions_any B g gd a bv sv pv W (h.still hb) hs); have HVN := hid (fun W (hb : Below w.heap.size w W) => xversion_any B g gd a bv sv pv W (h.still hb) hs); have HPT := hid (fun W (hb : Below w.heap.size w W) (i : Nat) (p : List Pt) (hp : a.pts[i]? = some p) => xpoints_yes B g gd a bv sv pv W (h.still hb) hs hp (a.lg.first + (i : Int)) rfl); have HOK := hid hs.ok; obtain ⟨m, hm⟩ : ∃ m, m = a.pts.length := ⟨_, rfl⟩
  have HV := hid (show ∀ (W : World) (k : Nat), Below w.heap.size w W -> k < m -> ∀ g1 c1, vv = .slice (some ⟨g1, 0, none⟩) m c1 -> W.cell? ⟨g1, k, none⟩ = some (.int .i64 (a.lg.first + (k : Int))) from fun W k hb hk g1 c1 e => by
    obtain ⟨g3, c3, e3, h3⟩ := OwnI.at hv (versL_at (by omega : k < a.pts.length)); rw [e] at e3; injection e3 with e3
    injection e3 with e3
    injection e3 with e3
    rw [e3, hb.cell (block_lt_of_cell h3)]
    exact h3)
  have HP := hid (show ∀ (W : World) (k : Nat) (p : List Pt), Below w.heap.size w W -> a.pts[k]? = some p -> ∀ g1 c1, rv = .slice (some ⟨g1, 0, none⟩) m c1 -> ∃ x, W.cell? ⟨g1, k, none⟩ = some x /\ OwnP W B2 x p from fun W k p hb hk g1 c1 e => by
    obtain ⟨g3, c3, x, e3, h3, hx⟩ := hr.at hk; rw [e] at e3; injection e3 with e3
    injection e3 with e3
    injection e3 with e3
    refine ⟨x, ?_, OwnP.keep hx hb⟩; rw [e3, hb.cell (block_lt_of_cell h3)]
    exact h3)
  obtain ⟨g1, c1, cur1, hv1, _, _⟩ := hv.rows (by rw [List.length_map, versL_len]; omega); rw [List.length_map, versL_len, <- hm] at hv1; subst hv1; obtain ⟨g2, c2, x2, hv2, _⟩ := hr.at hP; rw [<- hm] at hv2; subst hv2; obtain ⟨f, hff⟩ : ∃ f, f = a.lg.first := ⟨_, rfl⟩; have HMN := hid (show m = n + 1 by rw [hm, hn]); have hver : a.lg.first + (a.pts.length : Int) - 1 = f + (n : Int) := by rw [hn, hff]; omega
  rw [hver] at HVN; rw [<- hff] at HLA HVE HPT HV hfs; rw [<- hm] at HVE hpl; have HM := hid hm; clear h hs hv hr h0 hP hn hff hver hm; unfold rfRow; go_enter Tryz.func15, Tryz.ntmps15; go_upto_region 1 with fail; refine gen_world (fun W1 hW1 => ?_); have KB := hid (show W1.heap[w.heap.size]? = some (.cells #[.int .i64 c, .slice (some ⟨g1, 0, none⟩) m c1, .slice (some ⟨g2, 0, none⟩) m c2] 33) by rw [hW1]; exact (by repeat' (first | (refine heap_alloc_at _ _ _ ?_; (first | rfl | (simp; done) | (simp; omega))) | (refine heap_alloc_past _ _ _ _ ?_)))); have HB1 := hid (show Below w.heap.size w W1 by rw [hW1]; (focus ((repeat' (first | (with_reducible first | exact Below.refl _ _ | assumption | refine Below.alloc ?_ ?_ _ | refine Below.drew ?_ | refine below_drewN ?_ _ | refine Below.setCell ?_ ?_ _ | refine below_setRow ?_ ?_ _) | go_size)); done))); clear hW1; have b0 : W1.cell? ⟨w.heap.size, 0, none⟩ = some (.int .i64 c) := (cell_row (j := 0) KB.out).trans rfl; have b1 : W1.cell? ⟨w.heap.size, 1, none⟩ = some (.slice (some ⟨g1, 0, none⟩) m c1) := (cell_row (j := 1) KB.out).trans rfl; have b2 : W1.cell? ⟨w.heap.size, 2, none⟩ = some (.slice (some ⟨g2, 0, none⟩) m c2) := (cell_row (j := 2) KB.out).trans rfl; go_wp2_with fail; refine (HLA.out W1 HB1.out).mono ?_; rintro r w2 ⟨⟨x, rfl, _⟩, hb2⟩; have KB2 := hid (heap_still hb2 KB.out); have HB2 := hid (HB1.out.trans (hb2.mono HB1.out.size)); clear hb2 b0 b1 b2 KB HB1 HLA; go_wp2_with fail; refine (HVE.out w2 HB2.out).mono ?_; rintro r w3 ⟨⟨ov, rfl, ho⟩, hb3⟩; have KB3 := hid (heap_still hb3 KB2.out); have HB3 := hid (HB2.out.trans (hb3.mono HB2.out.size)); obtain ⟨go, co, curo, hov, _, hgo, _, _⟩ := ho.rows (by rw [List.length_map, versL_len, HMN.out]; omega); rw [List.length_map, versL_len] at hov; subst hov; have HO3 := hid ho; clear hb3 KB2 HB2 HVE ho hgo; go_wp2_with fail; refine (HVN.out w3 HB3.out).mono ?_; rintro r w4 ⟨rfl, hb4⟩; have KB4 := hid (heap_still hb4 KB3.out); have HB4 := hid (HB3.out.trans (hb4.mono HB3.out.size)); have HO4 := hid (show OwnI w4 w2.heap.size _ (versL f m) from OwnR.grow HO3.out hb4); clear hb4 KB3 HB3 HVN HO3; have b1 : w4.cell? ⟨w.heap.size, 1, none⟩ = some (.slice (some ⟨g1, 0, none⟩) m c1) := (cell_row (j := 1) KB4.out).trans rfl; have d5 : (f + (n : Int) != f + (n : Int)) = false := by simp
  have d6 : ((m : Int) != (m : Int)) = false := by simp
  go_wp2_with fail; clear b1 d5 d6
  go_loopw [32] (fun iv W => ∃ k : Nat, k <= m /\ iv = .int .i64 (k : Int) /\ Below w4.heap.size w4 W) (fun iv _ => m - (intOf iv).toNat)
  case atStart => exact ⟨0, by omega, rfl, Below.refl _ _⟩
  case round =>
    obtain ⟨k, hk, rfl, hB⟩ := hrel; have HBW := hid hB; have HBT := hid (HB4.out.trans (hB.mono HB4.out.size)); by_cases hlt : k < m
    · have d1 : decide ((k : Int) < (m : Int)) = true := decide_eq_true (by omega); have hk0 : (0 : Int) <= (k : Int) := by omega
      obtain ⟨p, hpk⟩ : ∃ p, a.pts[k]? = some p := ⟨_, List.getElem?_eq_getElem (by rw [<- HM.out]; exact hlt)⟩; obtain ⟨go2, co2, eo, ho⟩ := OwnI.at (OwnR.grow HO4.out hB : OwnI wr w2.heap.size _ (versL f m)) (versL_at hlt); injection eo with eo e8 e9
      injection eo with eo
      injection eo with eo
      subst eo; clear e8 e9; have HPK := hid hpk; clear hB hpk; go_wp2_with fail; refine (HPT.out wr HBT.out k p HPK.out).mono ?_; rintro r w6 ⟨⟨q, rfl, hq⟩, hb6⟩; have HB6 := hid (HBT.out.trans (hb6.mono HBT.out.size)); have HA6 := hid (HBW.out.trans (hb6.mono HBW.out.size)); obtain ⟨y, hy1, hy2⟩ := HP.out w6 k p HB6.out HPK.out g2 c2 rfl; have HSP := hid (fun d os => same_pts q y p (Sort.grow (redrawn w6 d) os) ((OwnP.ptsV hq).still (below_regrown w6 d os)) ((OwnP.ptsV hy2).still (below_regrown w6 d os)) (by have := (HOK.out p (List.mem_of_getElem? HPK.out)).len; omega)); have q1 := fun d os => cell_regrown (show w6.cell? ⟨w.heap.size, 1, none⟩ = some (.slice (some ⟨g1, 0, none⟩) m c1) from (cell_row (j := 1) (heap_still HA6.out KB4.out)).trans rfl) d os
      have q2 := fun d os => cell_regrown (show w6.cell? ⟨w.heap.size, 2, none⟩ = some (.slice (some ⟨g2, 0, none⟩) m c2) from (cell_row (j := 2) (heap_still HA6.out KB4.out)).trans rfl) d os
      have q3 := fun d os => cell_regrown (show w6.cell? ⟨go, k, none⟩ = some (.int .i64 (f + (k : Int))) by rw [hb6.cell (block_lt_of_cell ho)]; exact ho) d os
      have q4 := fun d os => cell_regrown (HV.out w6 k HB6.out hlt g1 c1 rfl) d os
      have q5 := fun d os => cell_regrown hy1 d os
      have d5 : (f + (k : Int) != f + (k : Int)) = false := by simp
      clear hq hb6 hy1 hy2 ho; go_wp2_with fail; refine wp_region_quiet_below (by kernel_rfl) (by kernel_rfl) ?_
      repeat (first | go_big_quiet_step (first | (go_at_call 39; exact Calls.regrown_of (HSP.out _ _))) | quiet_step (first | (go_at_call 39; exact Calls.regrown_of (HSP.out _ _))))
      refine wpQuiet_nil ?_; intro _ hw'; obtain ⟨⟨dq, osq⟩, hw2⟩ := hw'; subst hw2; have HB7 := hid (HA6.out.trans ((below_regrown w6 dq osq).mono HA6.out.size)); clear q1 q2 q3 q4 q5 d5 HSP; go_wp2_with fail; exact ⟨⟨k + 1, by omega, by go_num, HB7.out⟩, by simp [intOf]; omega⟩
    · obtain rfl : k = m := by omega
      have d1 : decide ((k : Int) < (k : Int)) = false := by simp
      clear hB; go_wp2_with fail; go_ret; exact ⟨rfl, HBT.out⟩
end Go.Proofs.YtcclpdfmmdonpaaGreat
