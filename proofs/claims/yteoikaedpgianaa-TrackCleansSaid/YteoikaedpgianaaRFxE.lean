/- The program's cleaner of fixes: issue 120, drop 122. (Printed by wip/gen_fxe.py.) The program's cleaner of fixes: drop 122. (Printed by wip/gen_fxf.py.) Fixes that can both be right; what the program's cleaner makes of fixes. -/
import Derived.Test.YteoikaedpgianaaRFxD
import Derived.Test.YteoikaedpgianaaRReg
import Derived.Test.YteoikaedpgianaaRFxB
import Derived.Test.YteoikaedpgianaaRStableM
namespace Go.Proofs.Yteoikaedpgianaa
open Go.RowKit Go.Sort Go.Lib Go.Shelf Go.Proofs

/-- the blocks of fixes are as they were -/
def Keep55 (w W : World) : Prop := ∀ (k : Nat) (C : Array Value), w.heap[k]? = some (.cells C 55) → W.heap[k]? = some (.cells C 55)
theorem Keep55.refl (w : World) : Keep55 w w := fun _ _ h => h
theorem Keep55.trans {w W V : World} (h : Keep55 w W) (h2 : Keep55 W V) : Keep55 w V := fun k C hk => h2 k C (h k C hk)
theorem Keep55.of_below {w W : World} (h : Below w.heap.size w W) : Keep55 w W := fun _ _ hk => heap_still h hk
theorem Keep55.set {w : World} {g o t : Nat} {C : Array Value} {u : Value} (hg : w.heap[g]? = some (.cells C t)) (ht : t ≠ 55) : Keep55 w (w.setCell ⟨g, o, none⟩ u) := fun k C' hk => (Below.heap_setCell w ⟨g, o, none⟩ u k (fun e => by
  have e2 : k = g := e
  subst e2
  rw [hg] at hk
  injection hk with hk
  injection hk with _ hk
  exact ht hk)).trans hk
/-- an issue: its kind and its time -/
def irow (p : Int × Int) : List Value := [.int .i64 p.1, .int .i64 p.2]
theorem irow_one (p : Int × Int) : ∀ v ∈ irow p, v.oneCell' = true := fun v hv => by
  simp [irow] at hv
  rcases hv with rfl | rfl <;> rfl
theorem irows_wide (L : List (Int × Int)) : Wide 2 (L.map irow) := wide_map (enc := irow) (k := 2) (fun _ => rfl) irow_one L
def OwnI2 (W : World) (base : Nat) (v : Value) (l : List (Int × Int)) : Prop := OwnR W base 124 2 v (l.map irow)
theorem own_type {W : World} {base t sz : Nat} {v : Value} {l : List (List Value)} (h : OwnR W base t sz v l) {k : Nat} (hk : v.ownBlock = some k) : ∃ C, W.heap[k]? = some (.cells C t) := by
  rcases h.2.2 with ⟨h1, _⟩ | ⟨g, cap, cur, h1, _, h2, _⟩
  · subst h1; cases hk
  · subst h1
    injection hk with hk
    subst hk
    exact ⟨cur, h2⟩
theorem own_apart {W : World} {base base' t t' sz sz' : Nat} {v v' : Value} {l l' : List (List Value)} (h : OwnR W base t sz v l) (h' : OwnR W base' t' sz' v' l') (ht : t ≠ t') : ∀ k, v.ownBlock = some k → v'.ownBlock ≠ some k := fun k hk hk' => by
  obtain ⟨C, h1⟩ := own_type h hk
  obtain ⟨C', h2⟩ := own_type h' hk'
  rw [h1] at h2
  injection h2 with h2
  injection h2 with _ h2
  exact ht h2
theorem own_not {W : World} {base t t' sz : Nat} {v : Value} {l : List (List Value)} {g : Nat} {C : Array Value} (h : OwnR W base t sz v l) (hg : W.heap[g]? = some (.cells C t')) (ht : t ≠ t') : v.ownBlock ≠ some g := fun hk => by
  obtain ⟨C', h2⟩ := own_type h hk
  rw [hg] at h2
  injection h2 with h2
  injection h2 with _ h2
  exact ht h2.symm
theorem OwnR.same {W W' : World} {base t sz : Nat} {v : Value} {l : List (List Value)} (h : OwnR W base t sz v l) (hb : ∀ k, v.ownBlock = some k → W'.heap[k]? = W.heap[k]?) : OwnR W' base t sz v l := by
  refine ⟨h.1, h.2.1, ?_⟩
  rcases h.2.2 with h1 | ⟨g, cap, cur, h1, h2, h3, h4⟩
  · exact .inl h1
  · exact .inr ⟨g, cap, cur, h1, h2, by rw [hb g (by rw [h1]; rfl)]; exact h3, h4⟩
/-- the cleaner in memory -/
structure ClV (W : World) (B g : Nat) (m0 m1 m2 m3 : Int) (Kl Rl : List Fx) (I : List (Int × Int)) (kv rv iv : Value) : Prop where
  hg : W.heap[g]? = some (.cells #[.int .i64 m0, .int .i64 m1, .int .i64 m2, .int .i64 m3, kv, rv, iv] 173)
  hB : B ≤ g
  k : OwnF W B kv Kl
  r : OwnF W B rv Rl
  i : OwnI2 W B iv I
  kr : ∀ b, kv.ownBlock = some b → rv.ownBlock ≠ some b
section
variable {W W' : World} {B g : Nat} {m0 m1 m2 m3 : Int} {Kl Rl : List Fx} {I : List (Int × Int)} {kv rv iv : Value}
theorem ClV.still (h : ClV W B g m0 m1 m2 m3 Kl Rl I kv rv iv) (hb : Below W.heap.size W W') : ClV W' B g m0 m1 m2 m3 Kl Rl I kv rv iv :=
  ⟨heap_still hb h.hg, h.hB, h.k.grow hb, h.r.grow hb, h.i.grow hb, h.kr⟩
theorem ClV.c0 (h : ClV W B g m0 m1 m2 m3 Kl Rl I kv rv iv) : W.cell? ⟨g, 0, none⟩ = some (.int .i64 m0) := (cell_row (j := 0) h.hg).trans rfl
theorem ClV.c1 (h : ClV W B g m0 m1 m2 m3 Kl Rl I kv rv iv) : W.cell? ⟨g, 1, none⟩ = some (.int .i64 m1) := (cell_row (j := 1) h.hg).trans rfl
theorem ClV.c2 (h : ClV W B g m0 m1 m2 m3 Kl Rl I kv rv iv) : W.cell? ⟨g, 2, none⟩ = some (.int .i64 m2) := (cell_row (j := 2) h.hg).trans rfl
theorem ClV.c3 (h : ClV W B g m0 m1 m2 m3 Kl Rl I kv rv iv) : W.cell? ⟨g, 3, none⟩ = some (.int .i64 m3) := (cell_row (j := 3) h.hg).trans rfl
theorem ClV.c4 (h : ClV W B g m0 m1 m2 m3 Kl Rl I kv rv iv) : W.cell? ⟨g, 4, none⟩ = some kv := (cell_row (j := 4) h.hg).trans rfl
theorem ClV.c5 (h : ClV W B g m0 m1 m2 m3 Kl Rl I kv rv iv) : W.cell? ⟨g, 5, none⟩ = some rv := (cell_row (j := 5) h.hg).trans rfl
theorem ClV.c6 (h : ClV W B g m0 m1 m2 m3 Kl Rl I kv rv iv) : W.cell? ⟨g, 6, none⟩ = some iv := (cell_row (j := 6) h.hg).trans rfl
theorem ClV.lt (h : ClV W B g m0 m1 m2 m3 Kl Rl I kv rv iv) : g < W.heap.size := (Array.getElem?_eq_some_iff.1 h.hg).1
theorem setCell_other {W : World} {g o : Nat} {u : Value} {k : Nat} (hk : k ≠ g) : (W.setCell ⟨g, o, none⟩ u).heap[k]? = W.heap[k]? := Below.heap_setCell W ⟨g, o, none⟩ u k hk
/-- a new list of issues is put into the cleaner -/
theorem ClV.putI (h : W.heap[g]? = some (.cells #[.int .i64 m0, .int .i64 m1, .int .i64 m2, .int .i64 m3, kv, rv, iv] 173)) (hB : B ≤ g) (hk : OwnF W B kv Kl) (hr : OwnF W B rv Rl) (kr : ∀ b, kv.ownBlock = some b → rv.ownBlock ≠ some b) {iv' : Value} {I' : List (Int × Int)} (hi : OwnI2 W B iv' I') :
    ClV (W.setCell ⟨g, 6, none⟩ iv') B g m0 m1 m2 m3 Kl Rl I' kv rv iv' :=
  ⟨heap_setCell h iv', hB, hk.same (fun k e => setCell_other (fun e2 => own_not hk h (by decide) (by rw [← e2]; exact e))), hr.same (fun k e => setCell_other (fun e2 => own_not hr h (by decide) (by rw [← e2]; exact e))), hi.same (fun k e => setCell_other (fun e2 => own_not hi h (by decide) (by rw [← e2]; exact e))), kr⟩
theorem ClV.putR (h : W.heap[g]? = some (.cells #[.int .i64 m0, .int .i64 m1, .int .i64 m2, .int .i64 m3, kv, rv, iv] 173)) (hB : B ≤ g) (hk : OwnF W B kv Kl) (hi : OwnI2 W B iv I) {rv' : Value} {R' : List Fx} (hr : OwnF W B rv' R') (kr : ∀ b, kv.ownBlock = some b → rv'.ownBlock ≠ some b) :
    ClV (W.setCell ⟨g, 5, none⟩ rv') B g m0 m1 m2 m3 Kl R' I kv rv' iv :=
  ⟨heap_setCell h rv', hB, hk.same (fun k e => setCell_other (fun e2 => own_not hk h (by decide) (by rw [← e2]; exact e))), hr.same (fun k e => setCell_other (fun e2 => own_not hr h (by decide) (by rw [← e2]; exact e))), hi.same (fun k e => setCell_other (fun e2 => own_not hi h (by decide) (by rw [← e2]; exact e))), kr⟩
theorem ClV.putK (h : W.heap[g]? = some (.cells #[.int .i64 m0, .int .i64 m1, .int .i64 m2, .int .i64 m3, kv, rv, iv] 173)) (hB : B ≤ g) (hr : OwnF W B rv Rl) (hi : OwnI2 W B iv I) {kv' : Value} {K' : List Fx} (hk : OwnF W B kv' K') (kr : ∀ b, kv'.ownBlock = some b → rv.ownBlock ≠ some b) :
    ClV (W.setCell ⟨g, 4, none⟩ kv') B g m0 m1 m2 m3 K' Rl I kv' rv iv :=
  ⟨heap_setCell h kv', hB, hk.same (fun k e => setCell_other (fun e2 => own_not hk h (by decide) (by rw [← e2]; exact e))), hr.same (fun k e => setCell_other (fun e2 => own_not hr h (by decide) (by rw [← e2]; exact e))), hi.same (fun k e => setCell_other (fun e2 => own_not hi h (by decide) (by rw [← e2]; exact e))), kr⟩
end
theorem info124f : (Try.prog.info? 124).map (fun i => (i.zero, i.size, i.bytes)) = some (some (.agg #[.int .i64 0, .int .i64 0]), 2, 16) := by kernel_rfl
theorem below_set {B : Nat} {w W : World} (h : Below B w W) {g o : Nat} (hg : B ≤ g) (u : Value) : Below B w (W.setCell ⟨g, o, none⟩ u) := h.setCell (p := ⟨g, o, none⟩) hg u
theorem below_grown {B : Nat} {w W W' : World} (h : Below B w W) {r : Option Nat} (hg : W.grownBy W' r) (hr : ∀ k, r = some k → B ≤ k) (hB : B ≤ W.heap.size) : Below B w W' := h.grown hg hB hr
set_option maxRecDepth 100000 in
set_option maxHeartbeats 1600000 in
theorem issue_any (B g : Nat) (m0 m1 m2 m3 kd : Int) (Kl Rl : List Fx) (I : List (Int × Int)) (kv rv iv : Value) (f : Fx) (w : World) (h : ClV w B g m0 m1 m2 m3 Kl Rl I kv rv iv) (hn : I.length ≤ 1000000) :
    Calls Try.prog 120 #[.pointer (some ⟨g, 0, none⟩), .int .i64 kd, .agg f.row.toArray] w fun r w' => r = .returned (.tuple #[]) ∧ (∃ iv', ClV w' B g m0 m1 m2 m3 Kl Rl (I ++ [(kd, f.t)]) kv rv iv') ∧ Below B w w' ∧ Keep55 w w' := by
  have HLT := hid h.lt
  have HGB := hid h.hB
  have HKR := hid h.kr
  have H := hid h
  obtain ⟨ia, ic, hiv⟩ := OwnR.slice h.i
  rw [List.length_map] at hiv
  clear h
  subst hiv
  obtain ⟨i0, hi, hz0, hz1, hz2⟩ := info_parts info124f
  have HI := hid hi
  have HZ0 := hid hz0
  have HZ1 := hid hz1
  have HZ2 := hid hz2
  clear hi hz0 hz1 hz2
  obtain ⟨n, hnn⟩ : ∃ n, n = I.length := ⟨_, rfl⟩
  rw [← hnn] at H hn
  have HN := hid hnn
  clear hnn
  go_enter Try.func120, Try.ntmps120
  go_upto_region 1 with fail
  refine gen_world (fun W0 hW0 => ?_)
  have KB := hid (show W0.heap[w.heap.size]? = some (.cells f.row.toArray 55) by rw [hW0]; exact heap_alloc_at _ _ _ rfl)
  have HB0 := hid (show Below w.heap.size w W0 by rw [hW0]; exact (Below.refl _ _).alloc (Nat.le_refl _) _)
  clear hW0
  have HC := hid (H.out.still HB0.out)
  have HBB := hid (show Below B w W0 from HB0.out.mono (by have := HLT.out; have := HGB.out; omega))
  refine gen_act (fun A0 hA => ?_)
  refine wp_region_by (by kernel_rfl) (by kernel_rfl) [some 6, some 7, some 8, some 9, some 10, some 11, some 12, some 13, some 14, some 15, some 16, some 17, some 18, none] rfl (by decide) (StR (fun j => ([.pointer (some ⟨g, 0, none⟩), .pointer (some ⟨g, 0, none⟩), .pointer (some ⟨g, 0, none⟩), .pointer (some ⟨g, 6, none⟩), .slice ia n ic, .int .i64 kd, .pointer (some ⟨w.heap.size, 0, none⟩), .int .i64 f.t, .agg #[.int .i64 kd, .int .i64 f.t], undef, undef, .pointer (some ⟨g, 0, none⟩), .pointer (some ⟨g, 6, none⟩), undef] : List Value).getD j undef) [9, 10, 13] [4] (fun kk vv WW => (match kk with | 0 => WW.heap[g]? = some (.cells #[.int .i64 m0, .int .i64 m1, .int .i64 m2, .int .i64 m3, kv, rv, .slice ia n ic] 173) ∧ OwnI2 WW B (.slice ia n ic) I | 1 => WW.heap[g]? = some (.cells #[.int .i64 m0, .int .i64 m1, .int .i64 m2, .int .i64 m3, kv, rv, .slice ia n ic] 173) ∧ OwnI2 WW B (.slice ia n ic) I ∧ (∃ q, vv 0 = .slice (some ⟨q, 0, none⟩) 1 1 ∧ WW.heap[q]? = some (.cells #[.int .i64 kd, .int .i64 f.t] 124)) | 2 => WW.heap[g]? = some (.cells #[.int .i64 m0, .int .i64 m1, .int .i64 m2, .int .i64 m3, kv, rv, .slice ia n ic] 173) ∧ OwnI2 WW B (vv 1) (I ++ [(kd, f.t)]) | _ => WW.heap[g]? = some (.cells #[.int .i64 m0, .int .i64 m1, .int .i64 m2, .int .i64 m3, kv, rv, (vv 1)] 173) ∧ OwnI2 WW B (vv 1) (I ++ [(kd, f.t)])) ∧ Below B w WW ∧ W0.heap.size ≤ WW.heap.size ∧ Keep55 W0 WW ∧ OwnF WW B kv Kl ∧ OwnF WW B rv Rl)) (selfF A0 _) (putF_self A0 _)
    (StR.start ⟨⟨(HC.out.still (Below.refl _ _).drew).hg, (HC.out.still (Below.refl _ _).drew).i⟩, HBB.out.drew, Nat.le_refl _, Keep55.of_below (Below.refl _ _).drew, (HC.out.still (Below.refl _ _).drew).k, (HC.out.still (Below.refl _ _).drew).r⟩ (fun _ => rfl)) ?hsI ?htI
  case hsI =>
    refine ⟨?_, ?_, ?_, ?_, ?_, ?_, ?_, ?_, ?_, ?_, ?_, ?_, ?_, ?_, trivial⟩
    · intro K L us W hK0 hL hd hR
      have hK := hid (fun v9 A9 h1 (h3 : v9 = .pointer (some ⟨g, 0, none⟩)) => hK0 v9 A9 W h1 (hR.pure (by decide) h3)); clear hK0
      clear hd
      simp only [putF]
      rw [hA]
      go_frame
      go_wp2_with fail
      exact hK.out _ _ (by rw [hA]; simp only [putF]; kernel_rfl) rfl
    · intro K L us W hK0 hL hd hR
      have hK := hid (fun v9 A9 h1 (h3 : v9 = .pointer (some ⟨g, 0, none⟩)) => hK0 v9 A9 W h1 (hR.pure (by decide) h3)); clear hK0
      clear hd
      simp only [putF]
      rw [hA]
      go_frame
      go_wp2_with fail
      exact hK.out _ _ (by rw [hA]; simp only [putF]; kernel_rfl) rfl
    · intro K L us W hK0 hL hd hR
      have e1 : us 1 = .pointer (some ⟨g, 0, none⟩) := hR.vals 1 (by decide) (all_on hd ⟨1, Ground.data⟩ (by simp) rfl)
      have hK := hid (fun v9 A9 h1 (h3 : v9 = .pointer (some ⟨g, 0, none⟩)) => hK0 v9 A9 W h1 (hR.pure (by decide) h3)); clear hK0
      clear hd
      simp only [putF]
      rw [hA, e1]
      go_frame
      go_wp2_with fail
      exact hK.out _ _ (by rw [hA]; simp only [putF]; rw [e1]; kernel_rfl) rfl
    · intro K L us W hK0 hL hd hR
      have e2 : us 2 = .pointer (some ⟨g, 0, none⟩) := hR.vals 2 (by decide) (all_on hd ⟨2, Ground.data⟩ (by simp) rfl)
      have hK := hid (fun v9 A9 h1 (h3 : v9 = .pointer (some ⟨g, 6, none⟩)) => hK0 v9 A9 W h1 (hR.pure (by decide) h3)); clear hK0
      clear hd
      simp only [putF]
      rw [hA, e2]
      go_frame
      go_wp2_with fail
      exact hK.out _ _ (by rw [hA]; simp only [putF]; rw [e2]; kernel_rfl) rfl
    · intro K L us W hK0 hL hd hR
      have e3 : us 3 = .pointer (some ⟨g, 6, none⟩) := hR.vals 3 (by decide) (all_on hd ⟨3, Ground.data⟩ (by simp) rfl)
      have hK := hid (fun v9 A9 h1 (h3 : v9 = .slice ia n ic) => hK0 v9 A9 W h1 (hR.pure (by decide) h3)); clear hK0
      have c0 : W.cell? ⟨g, 6, none⟩ = some (.slice ia n ic) := by obtain ⟨k9, hk9, hS9⟩ := hR.early (j := 4) (by decide) hL (by decide); match k9, hk9, hS9 with | 0, _, hS9 => exact (cell_row (j := 6) hS9.1.1).trans rfl | 1, _, hS9 => exact (cell_row (j := 6) hS9.1.1).trans rfl | 2, _, hS9 => exact (cell_row (j := 6) hS9.1.1).trans rfl
      clear hd
      simp only [putF]
      rw [hA, e3]
      go_frame
      go_wp2_with fail
      exact hK.out _ _ (by rw [hA]; simp only [putF]; rw [e3]; kernel_rfl) rfl
    · intro K L us W hK0 hL hd hR
      have hK := hid (fun v9 A9 h1 (h3 : v9 = .int .i64 kd) => hK0 v9 A9 W h1 (hR.pure (by decide) h3)); clear hK0
      clear hd
      simp only [putF]
      rw [hA]
      go_frame
      go_wp2_with fail
      exact hK.out _ _ (by rw [hA]; simp only [putF]; kernel_rfl) rfl
    · intro K L us W hK0 hL hd hR
      have hK := hid (fun v9 A9 h1 (h3 : v9 = .pointer (some ⟨w.heap.size, 0, none⟩)) => hK0 v9 A9 W h1 (hR.pure (by decide) h3)); clear hK0
      clear hd
      simp only [putF]
      rw [hA]
      go_frame
      go_wp2_with fail
      exact hK.out _ _ (by rw [hA]; simp only [putF]; kernel_rfl) rfl
    · intro K L us W hK0 hL hd hR
      have e6 : us 6 = .pointer (some ⟨w.heap.size, 0, none⟩) := hR.vals 6 (by decide) (all_on hd ⟨6, Ground.data⟩ (by simp) rfl)
      have hK := hid (fun v9 A9 h1 (h3 : v9 = .int .i64 f.t) => hK0 v9 A9 W h1 (hR.pure (by decide) h3)); clear hK0
      have c0 : W.cell? ⟨w.heap.size, 0, none⟩ = some (.int .i64 f.t) := (cell_row (j := 0) (show W.heap[w.heap.size]? = some (.cells f.row.toArray 55) from by obtain ⟨_, _, _, hSq⟩ := hR.st; exact hSq.2.2.2.1 _ _ KB.out)).trans rfl
      clear hd
      simp only [putF]
      rw [hA, e6]
      go_frame
      go_wp2_with fail
      exact hK.out _ _ (by rw [hA]; simp only [putF]; rw [e6]; kernel_rfl) rfl
    · intro K L us W hK0 hL hd hR
      have e5 : us 5 = .int .i64 kd := hR.vals 5 (by decide) (all_on hd ⟨5, Ground.data⟩ (by simp) rfl)
      have e7 : us 7 = .int .i64 f.t := hR.vals 7 (by decide) (all_on hd ⟨7, Ground.data⟩ (by simp) rfl)
      have hK := hid (fun v9 A9 h1 (h3 : v9 = .agg #[.int .i64 kd, .int .i64 f.t]) => hK0 v9 A9 W h1 (hR.pure (by decide) h3)); clear hK0
      clear hd
      simp only [putF]
      rw [hA, e5, e7]
      go_frame
      go_wp2_with fail
      exact hK.out _ _ (by rw [hA]; simp only [putF]; rw [e5, e7]; kernel_rfl) rfl
    · intro K L us W hK0 hL hd hR
      have e8 : us 8 = .agg #[.int .i64 kd, .int .i64 f.t] := hR.vals 8 (by decide) (all_on hd ⟨8, Ground.data⟩ (by simp) rfl)
      have hS := hR.at 0 (by decide) (.inl rfl) hL
      have hK := hid (fun v9 A9 W9 h1 (hS' : (fun kk vv WW => (match kk with | 0 => WW.heap[g]? = some (.cells #[.int .i64 m0, .int .i64 m1, .int .i64 m2, .int .i64 m3, kv, rv, .slice ia n ic] 173) ∧ OwnI2 WW B (.slice ia n ic) I | 1 => WW.heap[g]? = some (.cells #[.int .i64 m0, .int .i64 m1, .int .i64 m2, .int .i64 m3, kv, rv, .slice ia n ic] 173) ∧ OwnI2 WW B (.slice ia n ic) I ∧ (∃ q, vv 0 = .slice (some ⟨q, 0, none⟩) 1 1 ∧ WW.heap[q]? = some (.cells #[.int .i64 kd, .int .i64 f.t] 124)) | 2 => WW.heap[g]? = some (.cells #[.int .i64 m0, .int .i64 m1, .int .i64 m2, .int .i64 m3, kv, rv, .slice ia n ic] 173) ∧ OwnI2 WW B (vv 1) (I ++ [(kd, f.t)]) | _ => WW.heap[g]? = some (.cells #[.int .i64 m0, .int .i64 m1, .int .i64 m2, .int .i64 m3, kv, rv, (vv 1)] 173) ∧ OwnI2 WW B (vv 1) (I ++ [(kd, f.t)])) ∧ Below B w WW ∧ W0.heap.size ≤ WW.heap.size ∧ Keep55 W0 WW ∧ OwnF WW B kv Kl ∧ OwnF WW B rv Rl) 1 (fun j => if j = 0 then v9 else selV [9, 10, 13] us j) W9) => hK0 v9 A9 W9 h1 (hR.next (by decide) 0 (by decide) (.inl rfl) hL hS' (fun h => absurd h (by decide)))); clear hK0
      obtain ⟨⟨hg4, hi4⟩, ⟨hB4, hz4, hx4, hk4, hr4⟩⟩ := hS
      have G4 := hid hg4
      have I4 := hid hi4
      clear hg4 hi4
      have B4 := hid hB4
      have X4 := hid hx4
      have K4 := hid hk4
      have R4 := hid hr4
      clear hB4 hx4 hk4 hr4
      clear hd
      simp only [putF]
      rw [hA, e8]
      go_frame
      go_wp2_with fail
      refine hK.out (.slice (some ⟨W.heap.size, 0, none⟩) 1 1) _ _ (by rw [hA]; simp only [putF]; rw [e8]; kernel_rfl) ?_
      exact ⟨⟨heap_still ((Below.refl W.heap.size W).alloc (Nat.le_refl _) (.cells #[.int .i64 kd, .int .i64 f.t] 124)) G4.out, I4.out.grow ((Below.refl W.heap.size W).alloc (Nat.le_refl _) (.cells #[.int .i64 kd, .int .i64 f.t] 124)), ⟨W.heap.size, rfl, heap_alloc_at _ _ _ rfl⟩⟩, B4.out.trans (((Below.refl W.heap.size W).alloc (Nat.le_refl _) (.cells #[.int .i64 kd, .int .i64 f.t] 124)).mono (by have := B4.out.size; have := HLT.out; have := HGB.out; omega)), by simp; omega, X4.out.trans (Keep55.of_below ((Below.refl W.heap.size W).alloc (Nat.le_refl _) (.cells #[.int .i64 kd, .int .i64 f.t] 124))), K4.out.grow ((Below.refl W.heap.size W).alloc (Nat.le_refl _) (.cells #[.int .i64 kd, .int .i64 f.t] 124)), R4.out.grow ((Below.refl W.heap.size W).alloc (Nat.le_refl _) (.cells #[.int .i64 kd, .int .i64 f.t] 124))⟩
    · intro K L us W hK0 hL hd hR
      have e4 : us 4 = .slice ia n ic := hR.vals 4 (by decide) (all_on hd ⟨4, Ground.data⟩ (by simp) rfl)
      have hS := hR.at 1 (by decide) (.inr ⟨by decide, all_on hd ⟨9, Ground.data⟩ (by simp) rfl⟩) hL
      have hK := hid (fun v9 A9 W9 h1 (hS' : (fun kk vv WW => (match kk with | 0 => WW.heap[g]? = some (.cells #[.int .i64 m0, .int .i64 m1, .int .i64 m2, .int .i64 m3, kv, rv, .slice ia n ic] 173) ∧ OwnI2 WW B (.slice ia n ic) I | 1 => WW.heap[g]? = some (.cells #[.int .i64 m0, .int .i64 m1, .int .i64 m2, .int .i64 m3, kv, rv, .slice ia n ic] 173) ∧ OwnI2 WW B (.slice ia n ic) I ∧ (∃ q, vv 0 = .slice (some ⟨q, 0, none⟩) 1 1 ∧ WW.heap[q]? = some (.cells #[.int .i64 kd, .int .i64 f.t] 124)) | 2 => WW.heap[g]? = some (.cells #[.int .i64 m0, .int .i64 m1, .int .i64 m2, .int .i64 m3, kv, rv, .slice ia n ic] 173) ∧ OwnI2 WW B (vv 1) (I ++ [(kd, f.t)]) | _ => WW.heap[g]? = some (.cells #[.int .i64 m0, .int .i64 m1, .int .i64 m2, .int .i64 m3, kv, rv, (vv 1)] 173) ∧ OwnI2 WW B (vv 1) (I ++ [(kd, f.t)])) ∧ Below B w WW ∧ W0.heap.size ≤ WW.heap.size ∧ Keep55 W0 WW ∧ OwnF WW B kv Kl ∧ OwnF WW B rv Rl) 2 (fun j => if j = 1 then v9 else selV [9, 10, 13] us j) W9) => hK0 v9 A9 W9 h1 (hR.next (by decide) 1 (by decide) (.inr ⟨by decide, all_on hd ⟨9, Ground.data⟩ (by simp) rfl⟩) hL hS' (fun h => absurd h (by decide)))); clear hK0
      obtain ⟨⟨hg4, hi4, ⟨q, hq, hq4⟩⟩, ⟨hB4, hz4, hx4, hk4, hr4⟩⟩ := hS
      have e9 : us 9 = .slice (some ⟨q, 0, none⟩) 1 1 := hq
      have G4 := hid hg4
      have I4 := hid hi4
      have Q4 := hid hq4
      clear hg4 hi4 hq hq4
      have B4 := hid hB4
      have X4 := hid hx4
      have K4 := hid hk4
      have R4 := hid hr4
      clear hB4 hx4 hk4 hr4
      clear hd
      simp only [putF]
      rw [hA, e4, e9]
      go_frame
      have HL1 := hid (show (I.map irow).length + [irow (kd, f.t)].length ≤ maxLen by rw [List.length_map, ← HN.out, List.length_singleton]; unfold maxLen; omega)
      have HL2 := hid (show ((I.map irow).length + [irow (kd, f.t)].length) * 16 ≤ 140737488355328 by rw [List.length_map, ← HN.out, List.length_singleton]; omega)
      have HL3 := hid (show B ≤ W.heap.size by have h1 := B4.out.size; have h2 := HLT.out; have h3 := HGB.out; omega)
      go_wp2_with (first | (at_builtin; go_loud (refine wpList_append_rowsR rfl (.tmp 10) (.tmp 15) 113 rfl B 124 i0 _ 2 16 Try.underlying113 HI.out HZ0.out HZ1.out HZ2.out rfl (by decide) _ (I.map irow) [irow (kd, f.t)] rfl I4.out q 0 1 1 rfl rfl (fun i r hi j hj => by match i, hi with | 0, hi => (injection hi with hi; subst hi; rw [cell_row Q4.out]; match j, hj with | 0, _ | 1, _ => rfl)) (irows_wide [(kd, f.t)]) HL1.out HL2.out HL3.out ?_; intro v7 w7 ho1 ho2 ho3; have HO1 := hid ho1; have HO2 := hid ho2; clear ho1 ho2 ho3)))
      refine hK.out v7 _ _ (by rw [hA]; simp only [putF]; rw [e4, e9]; kernel_rfl) ?_
      have hb : ∀ k, (Value.slice ia n ic).ownBlock ≠ some k → k < W.heap.size → w7.heap[k]? = W.heap[k]? := fun k hk hlt => HO2.out.block k hlt (fun e => hk e.symm)
      have hgl : ∀ {k : Nat} {x : Obj}, W.heap[k]? = some x → k < W.heap.size := fun h => (Array.getElem?_eq_some_iff.1 h).1
      refine ⟨⟨(hb g (own_not I4.out G4.out (by decide)) (hgl G4.out)).trans G4.out, by have := HO1.out; unfold OwnI2; rw [List.map_append]; exact this⟩, below_grown B4.out HO2.out (fun k hk => OwnR.ownBlock I4.out k hk) (by have := B4.out.size; have := HLT.out; have := HGB.out; omega), by have := HO2.out.size; omega, X4.out.trans (fun k C hk => (hb k (own_not I4.out hk (by decide)) (hgl hk)).trans hk), K4.out.same (fun k e => hb k (fun e2 => own_apart K4.out I4.out (by decide) k e e2) (by obtain ⟨_, h9⟩ := own_type K4.out e; exact hgl h9)), R4.out.same (fun k e => hb k (fun e2 => own_apart R4.out I4.out (by decide) k e e2) (by obtain ⟨_, h9⟩ := own_type R4.out e; exact hgl h9))⟩
    · intro K L us W hK0 hL hd hR
      have e0 : us 0 = .pointer (some ⟨g, 0, none⟩) := hR.vals 0 (by decide) (all_on hd ⟨0, Ground.data⟩ (by simp) rfl)
      have hK := hid (fun v9 A9 h1 (h3 : v9 = .pointer (some ⟨g, 0, none⟩)) => hK0 v9 A9 W h1 (hR.pure (by decide) h3)); clear hK0
      clear hd
      simp only [putF]
      rw [hA, e0]
      go_frame
      go_wp2_with fail
      exact hK.out _ _ (by rw [hA]; simp only [putF]; rw [e0]; kernel_rfl) rfl
    · intro K L us W hK0 hL hd hR
      have e11 : us 11 = .pointer (some ⟨g, 0, none⟩) := hR.vals 11 (by decide) (all_on hd ⟨11, Ground.data⟩ (by simp) rfl)
      have hK := hid (fun v9 A9 h1 (h3 : v9 = .pointer (some ⟨g, 6, none⟩)) => hK0 v9 A9 W h1 (hR.pure (by decide) h3)); clear hK0
      clear hd
      simp only [putF]
      rw [hA, e11]
      go_frame
      go_wp2_with fail
      exact hK.out _ _ (by rw [hA]; simp only [putF]; rw [e11]; kernel_rfl) rfl
    · intro K L us W hK0 hL hd hR
      have e12 : us 12 = .pointer (some ⟨g, 6, none⟩) := hR.vals 12 (by decide) (all_on hd ⟨12, Ground.data⟩ (by simp) rfl)
      have hS := hR.at 2 (by decide) (.inr ⟨by decide, all_on hd ⟨10, Ground.data⟩ (by simp) rfl⟩) hL
      have hK := hid (fun v9 A9 W9 h1 (hS' : (fun kk vv WW => (match kk with | 0 => WW.heap[g]? = some (.cells #[.int .i64 m0, .int .i64 m1, .int .i64 m2, .int .i64 m3, kv, rv, .slice ia n ic] 173) ∧ OwnI2 WW B (.slice ia n ic) I | 1 => WW.heap[g]? = some (.cells #[.int .i64 m0, .int .i64 m1, .int .i64 m2, .int .i64 m3, kv, rv, .slice ia n ic] 173) ∧ OwnI2 WW B (.slice ia n ic) I ∧ (∃ q, vv 0 = .slice (some ⟨q, 0, none⟩) 1 1 ∧ WW.heap[q]? = some (.cells #[.int .i64 kd, .int .i64 f.t] 124)) | 2 => WW.heap[g]? = some (.cells #[.int .i64 m0, .int .i64 m1, .int .i64 m2, .int .i64 m3, kv, rv, .slice ia n ic] 173) ∧ OwnI2 WW B (vv 1) (I ++ [(kd, f.t)]) | _ => WW.heap[g]? = some (.cells #[.int .i64 m0, .int .i64 m1, .int .i64 m2, .int .i64 m3, kv, rv, (vv 1)] 173) ∧ OwnI2 WW B (vv 1) (I ++ [(kd, f.t)])) ∧ Below B w WW ∧ W0.heap.size ≤ WW.heap.size ∧ Keep55 W0 WW ∧ OwnF WW B kv Kl ∧ OwnF WW B rv Rl) 3 (fun j => if j = 2 then v9 else selV [9, 10, 13] us j) W9) => hK0 v9 A9 W9 h1 (hR.next (by decide) 2 (by decide) (.inr ⟨by decide, all_on hd ⟨10, Ground.data⟩ (by simp) rfl⟩) hL hS' (fun _ => by intro j hj; rw [List.mem_singleton.1 hj]; exact all_on hd ⟨4, Ground.phase⟩ (by simp) rfl))); clear hK0
      obtain ⟨⟨hg4, hi4⟩, ⟨hB4, hz4, hx4, hk4, hr4⟩⟩ := hS
      obtain ⟨v10, e10⟩ : ∃ v, us 10 = v := ⟨_, rfl⟩
      have hi5 : OwnI2 W B (us 10) (I ++ [(kd, f.t)]) := hi4
      rw [e10] at hi5
      obtain ⟨a9, c9, e99⟩ := OwnR.slice hi5
      subst e99
      have G4 := hid hg4
      have I5 := hid hi5
      clear hi4 hi5 hg4
      have B4 := hid hB4
      have X4 := hid hx4
      have K4 := hid hk4
      have R4 := hid hr4
      clear hB4 hx4 hk4 hr4
      have z1 : W.frozen? ⟨g, 6, none⟩ = false := by have hh := G4.out; simp [World.frozen?, hh]
      have z0 : W.cell? ⟨g, 6, none⟩ = some (.slice ia n ic) := (cell_row (j := 6) G4.out).trans rfl
      generalize hl9 : ((I ++ [(kd, f.t)]).map irow).length = n9 at *
      have HL9 := hid hl9
      clear hl9
      clear hd
      simp only [putF]
      rw [hA, e12, e10]
      go_frame
      go_wp2_with fail
      refine hK.out undef _ _ (by rw [hA]; simp only [putF]; rw [e12, e10]; kernel_rfl) ?_
      have C9 := ClV.putI G4.out HGB.out K4.out R4.out HKR.out I5.out
      refine ⟨⟨?_, ?_⟩, below_set B4.out HGB.out _, by simp; omega, X4.out.trans (Keep55.set G4.out (by decide)), C9.k, C9.r⟩
      · show _ = some (Obj.cells #[.int .i64 m0, .int .i64 m1, .int .i64 m2, .int .i64 m3, kv, rv, (us 10)] 173)
        rw [e10]
        exact C9.hg
      · show OwnI2 _ B (us 10) _
        rw [e10]
        exact C9.i
  case htI =>
    intro L us W5 hall hR
    have hS := hR.last (fun i hi => match i, hi with | 0, _ => hall 9 (by decide) | 1, _ => hall 10 (by decide) | 2, _ => hall 13 (by decide))
    have e0 : us 0 = .pointer (some ⟨g, 0, none⟩) := hR.vals 0 (by decide) (hall 0 (by decide))
    have e1 : us 1 = .pointer (some ⟨g, 0, none⟩) := hR.vals 1 (by decide) (hall 1 (by decide))
    have e2 : us 2 = .pointer (some ⟨g, 0, none⟩) := hR.vals 2 (by decide) (hall 2 (by decide))
    have e3 : us 3 = .pointer (some ⟨g, 6, none⟩) := hR.vals 3 (by decide) (hall 3 (by decide))
    have e4 : us 4 = .slice ia n ic := hR.vals 4 (by decide) (hall 4 (by decide))
    have e5 : us 5 = .int .i64 kd := hR.vals 5 (by decide) (hall 5 (by decide))
    have e6 : us 6 = .pointer (some ⟨w.heap.size, 0, none⟩) := hR.vals 6 (by decide) (hall 6 (by decide))
    have e7 : us 7 = .int .i64 f.t := hR.vals 7 (by decide) (hall 7 (by decide))
    have e8 : us 8 = .agg #[.int .i64 kd, .int .i64 f.t] := hR.vals 8 (by decide) (hall 8 (by decide))
    have e11 : us 11 = .pointer (some ⟨g, 0, none⟩) := hR.vals 11 (by decide) (hall 11 (by decide))
    have e12 : us 12 = .pointer (some ⟨g, 6, none⟩) := hR.vals 12 (by decide) (hall 12 (by decide))
    clear hR hall
    obtain ⟨⟨hg5, hi5⟩, hB5, _, hx5, hk5, hr5⟩ := hS
    obtain ⟨v9, e9⟩ : ∃ v, us 9 = v := ⟨_, rfl⟩
    obtain ⟨v10, e10⟩ : ∃ v, us 10 = v := ⟨_, rfl⟩
    have hg6 : W5.heap[g]? = some (.cells #[.int .i64 m0, .int .i64 m1, .int .i64 m2, .int .i64 m3, kv, rv, (us 10)] 173) := hg5
    have hi6 : OwnI2 W5 B (us 10) (I ++ [(kd, f.t)]) := hi5
    rw [e10] at hg6 hi6
    have C5 := hid (show ClV W5 B g m0 m1 m2 m3 Kl Rl (I ++ [(kd, f.t)]) kv rv v10 from ⟨hg6, HGB.out, hk5, hr5, hi6, HKR.out⟩)
    have B5 := hid hB5
    have X5 := hid ((Keep55.of_below HB0.out).trans hx5)
    clear hx5
    clear hg5 hi5 hB5 hk5 hr5 hg6 hi6
    simp only [putF]
    rw [hA, e0, e1, e2, e3, e4, e5, e6, e7, e8, e11, e12, e9, e10]
    go_frame
    clear hA e9 e10 e0 e1 e2 e3 e4 e5 e6 e7 e8 e11 e12
    go_wp2_with fail
    go_end0
    exact ⟨rfl, ⟨_, C5.out⟩, B5.out, X5.out⟩
end Go.Proofs.Yteoikaedpgianaa
namespace Go.Proofs.Yteoikaedpgianaa
open Go.RowKit Go.Sort Go.Lib Go.Shelf Go.Proofs

def offs (R : List Fx) : List (Int × Int) := R.map fun f => (2, f.t)
theorem own_at {W : World} {B n : Nat} {a : Option Addr} {c : Nat} {L : List Fx} (h : OwnF W B (.slice a n c) L) {i : Nat} {x : Fx} (hx : L[i]? = some x) : ∃ b, a = some ⟨b, 0, none⟩ ∧ RowsAt W b 0 10 (L.map Fx.row) ∧ b < W.heap.size := by
  have hl : 0 < L.length := by have := (List.getElem?_eq_some_iff.1 hx).1; omega
  obtain ⟨g9, cap9, C, hv9, _, hC, hr, _⟩ := OwnR.rows h (by rw [List.length_map]; exact hl)
  injection hv9 with e1
  exact ⟨g9, e1, hr, (Array.getElem?_eq_some_iff.1 hC).1⟩
theorem row_arr (f : Fx) : f.row.toArray.size = 10 := rfl
set_option maxRecDepth 100000 in
set_option maxHeartbeats 1600000 in
theorem drop_any (B g : Nat) (m0 m1 m2 m3 : Int) (Kl Rl : List Fx) (I : List (Int × Int)) (kv rv iv : Value) (w : World) (h : ClV w B g m0 m1 m2 m3 Kl Rl I kv rv iv) (hn : I.length + Rl.length ≤ 100000) :
    Calls Try.prog 122 #[.pointer (some ⟨g, 0, none⟩)] w fun r w' => r = .returned (.tuple #[]) ∧ (∃ iv', ClV w' B g m0 m1 m2 m3 Kl [] (I ++ offs Rl) kv (.slice none 0 0) iv') ∧ Below B w w' ∧ Keep55 w w' := by
  have HLT := hid h.lt
  have HGB := hid h.hB
  have H := hid h
  obtain ⟨ra, rc, hrv⟩ := OwnR.slice h.r
  rw [List.length_map] at hrv
  subst hrv
  clear h
  obtain ⟨n, hnn⟩ : ∃ n, n = Rl.length := ⟨_, rfl⟩
  rw [← hnn] at H hn
  have HN := hid hnn
  clear hnn
  have c5 : w.cell? ⟨g, 5, none⟩ = some (.slice ra n rc) := H.out.c5
  go_enter Try.func122, Try.ntmps122
  go_wp2_with fail
  clear c5
  go_loopw [9] (fun iv W => ∃ (i : Nat) (jv : Value), i ≤ n ∧ iv = .int .i64 (i : Int) ∧ ClV W B g m0 m1 m2 m3 Kl Rl (I ++ offs (Rl.take i)) kv (.slice ra n rc) jv ∧ Below B w W ∧ Keep55 w W) (fun iv _ => n - (intOf iv).toNat)
  case atStart => exact ⟨0, iv, by omega, rfl, by simpa [offs] using H.out, Below.refl _ _, Keep55.refl _⟩
  case round =>
    obtain ⟨i, jv, hi, rfl, hC, hB, hX⟩ := hrel
    have HX5 := hid hX
    clear hX
    have HC := hid hC
    have HB := hid hB
    clear hC hB
    by_cases hlt : i < n
    · have e3 : decide ((i : Int) < (n : Int)) = true := decide_eq_true (by omega)
      obtain ⟨x, hx⟩ : ∃ x, Rl[i]? = some x := ⟨_, List.getElem?_eq_getElem (by rw [← HN.out]; exact hlt)⟩
      obtain ⟨b, hra, hrow, hbl⟩ := own_at HC.out.r hx
      subst hra
      have hc := row_of hrow hx (i * 10) rfl
      have HX := hid hx
      clear hx hrow
      have HI := hid (fun W (hb : Below wr.heap.size wr W) => issue_any B g m0 m1 m2 m3 2 Kl Rl (I ++ offs (Rl.take i)) kv _ jv x W (HC.out.still hb) (by rw [List.length_append]; simp [offs]; omega))
      go_wp2_with (first | (refine fx_load rfl 55 (.tmp 11) rfl b (i * 10) rfl x hc Try.underlying55 rfl size55f ?_) | (refine wpList_store_new rfl 55 (.tmp 3) (.tmp 12) rfl rfl rfl rfl size55f (row_arr x) rfl rfl ?_) | (refine wpList_load_at rfl 55 (.tmp 3) rfl rfl (heap_alloc_at _ _ _ rfl) Try.underlying55 rfl size55f (row_arr x) ?_))
      refine (HI.out _ ((Below.refl _ _).alloc (Nat.le_refl _) _)).mono ?_
      rintro r w1 ⟨rfl, ⟨iv', hc1⟩, hb1, hx1⟩
      have HC1 := hid hc1
      have HB1 := hid (HB.out.trans ((((Below.refl wr.heap.size wr).alloc (Nat.le_refl _) (.cells x.row.toArray 55)).mono (by have := HC.out.lt; have := HGB.out; omega)).trans hb1))
      have HX1 := hid ((HX5.out.trans (Keep55.of_below ((Below.refl wr.heap.size wr).alloc (Nat.le_refl _) (.cells x.row.toArray 55)))).trans hx1)
      clear hc1 hb1 hx1
      go_wp2_with fail
      refine ⟨⟨i + 1, iv', by omega, by go_num, ?_, HB1.out, HX1.out⟩, by simp [intOf]; omega⟩
      have e : offs (Rl.take (i + 1)) = offs (Rl.take i) ++ [(2, x.t)] := by
        unfold offs
        have hil : i < Rl.length := by rw [← HN.out]; exact hlt
        have hxe : Rl[i] = x := by have := HX.out; rw [List.getElem?_eq_getElem hil] at this; injection this
        rw [List.take_succ_eq_append_getElem hil, List.map_append, hxe]
        rfl
      rw [e, ← List.append_assoc]
      exact HC1.out
    · obtain rfl : i = n := by omega
      have e3 : decide ((i : Int) < (i : Int)) = false := decide_eq_false (by omega)
      have z1 : wr.frozen? ⟨g, 5, none⟩ = false := by have hh := HC.out.hg; simp [World.frozen?, hh]
      have z0 : wr.cell? ⟨g, 5, none⟩ = some (.slice ra i rc) := HC.out.c5
      go_wp2_with fail
      go_end0
      have e : offs (Rl.take i) = offs Rl := by rw [List.take_of_length_le (by rw [← HN.out]; exact Nat.le_refl _)]
      refine ⟨rfl, ⟨jv, ?_⟩, below_set HB.out HGB.out _, HX5.out.trans (Keep55.set HC.out.hg (by decide))⟩
      rw [← e]
      exact ClV.putR HC.out.hg HC.out.hB HC.out.k HC.out.i (OwnR.nil _ _ _ _) (fun _ _ => by simp [Value.ownBlock])
end Go.Proofs.Yteoikaedpgianaa
namespace Go.Proofs.Yteoikaedpgianaa
open Go.RowKit Go.Sort Go.Lib Go.Shelf Go.Proofs

/-- both fixes can be right -/
def nearB (m1 : Int) (p q : Fx) : Bool := decide (apartV p.x q.x ≤ mostV p.e q.e m1 p.t q.t) && decide (apartV p.y q.y ≤ mostV p.e q.e m1 p.t q.t) && decide (apartV p.z q.z ≤ mostV p.e q.e m1 p.t q.t)
theorem Fx.ok_bounds {p : Fx} (h : p.ok = true) : (0 ≤ p.t ∧ p.t ≤ 1125899906842624) ∧ (-134217728 ≤ p.x ∧ p.x ≤ 134217728) ∧ (-134217728 ≤ p.y ∧ p.y ≤ 134217728) ∧ (-134217728 ≤ p.z ∧ p.z ≤ 134217728) ∧ (0 ≤ p.e ∧ p.e ≤ 100000) := by
  unfold Fx.ok fixB at h
  simp only [Bool.and_eq_true, List.all_cons, List.all_nil, inB_iff] at h
  obtain ⟨⟨⟨⟨h1, h2⟩, h3⟩, _⟩, _⟩ := h
  exact ⟨h1, h2.1, h2.2.1, h2.2.2.1, h3⟩
theorem nearX_any (p q : Fx) (m0 m1 m2 m3 : Int) (w : World) (hp : p.ok = true) (hq : q.ok = true) (hm : 0 ≤ m1 ∧ m1 ≤ 1000000) :
    Calls Try.prog 92 #[.agg p.row.toArray, .agg q.row.toArray, .agg #[.int .i64 m0, .int .i64 m1, .int .i64 m2, .int .i64 m3]] w fun r w' => r = .returned (.bool (nearB m1 p q)) ∧ Below w.heap.size w w' := by
  have h1 := p.ok_bounds hp
  have h2 := q.ok_bounds hq
  exact xnear_any p.t p.x p.y p.z p.e p.a p.b p.c p.d p.g q.t q.x q.y q.z q.e q.a q.b q.c q.d q.g m0 m1 m2 m3 w ⟨h1.2.1, h1.2.2.1, h1.2.2.2.1, h2.2.1, h2.2.2.1, h2.2.2.2.1⟩ ⟨h1.1, h2.1⟩ ⟨h1.2.2.2.2, h2.2.2.2.2⟩ hm
theorem ddU_mem {S : List Fx} {x : Fx} : ∀ {m : Nat}, m ≤ S.length → (x ∈ ddU S m ↔ x ∈ S.take m)
  | 0, _ => by simp [ddU]
  | m + 1, h => by
    have ih := ddU_mem (S := S) (x := x) (m := m) (by omega)
    have hm : m < S.length := by omega
    rw [ddU, List.mem_append, ih, List.take_succ_eq_append_getElem hm, List.mem_append, List.mem_singleton]
    split
    · rw [List.getElem?_eq_getElem hm]; simp
    · rename_i hn
      have h0 : m ≠ 0 := fun e => hn (.inl e)
      have he : S[m]? = S[m - 1]? := Classical.byContradiction fun e => hn (.inr e)
      rw [List.getElem?_eq_getElem hm, List.getElem?_eq_getElem (by omega)] at he
      injection he with he
      simp only [List.not_mem_nil, or_false]
      constructor
      · exact .inl
      · rintro (h1 | h1)
        · exact h1
        · rw [h1, he]
          exact List.mem_of_getElem? (i := m - 1) (by rw [List.getElem?_take_of_lt (by omega), List.getElem?_eq_getElem (by omega)])
theorem ddU_up {S : List Fx} (hS : S.Pairwise fun p q => ¬ q.lt p) : ∀ m, m ≤ S.length → (ddU S m).Pairwise Fx.lt
  | 0, _ => List.Pairwise.nil
  | m + 1, h => by
    have hm : m < S.length := by omega
    have ih := ddU_up hS m (by omega)
    rw [ddU]
    split
    · rename_i hc
      rw [List.getElem?_eq_getElem hm]
      refine List.pairwise_append.2 ⟨ih, List.pairwise_singleton _ _, fun a ha b hb => ?_⟩
      have hb : b = S[m] := by simpa using hb
      subst hb
      have h2 := List.pairwise_iff_getElem.1 hS
      obtain ⟨j, hj⟩ := List.getElem?_of_mem ((ddU_mem (by omega)).1 ha)
      have hjm : j < m := by have := (List.getElem?_eq_some_iff.1 hj).1; rw [List.length_take] at this; omega
      rw [List.getElem?_take_of_lt hjm, List.getElem?_eq_getElem (by omega)] at hj
      injection hj with hj
      have hne : S[m] ≠ S[m - 1] := by
        rcases hc with h0 | h0
        · omega
        · intro e
          apply h0
          rw [List.getElem?_eq_getElem hm, List.getElem?_eq_getElem (by omega), e]
      have h3 := h2 (m - 1) m (by omega) hm (by omega)
      have h4 : ¬ (S[m - 1]).lt a := by
        rcases Nat.lt_or_eq_of_le (by omega : j ≤ m - 1) with e | e
        · rw [← hj]; exact h2 j (m - 1) (by omega) (by omega) e
        · subst e; rw [← hj]; exact Fx.lt_irrefl _
      by_cases hl : a.lt S[m]
      · exact hl
      · have h5 := Fx.le_trans h4 h3
        have e : a = S[m] := Fx.eq_of hl h5
        rw [e] at h4
        exact absurd (Fx.eq_of h4 h3).symm hne
    · rw [List.append_nil]; exact ih
/-- the fixes, each once, in the program's order -/
def Once (xs D : List Fx) : Prop := D.Pairwise Fx.lt ∧ ∀ x, x ∈ D ↔ x ∈ xs
theorem once_nodup {D : List Fx} (h : D.Pairwise Fx.lt) : D.Nodup := h.imp fun {a b} hab e => by subst e; exact Fx.lt_irrefl _ hab
theorem lt_not {p q : Fx} (h : p.lt q) : ¬ q.lt p := fun h2 => Fx.lt_irrefl _ (Fx.lt_trans h h2)
theorem Once.times {xs D : List Fx} (h : Once xs D) : timesUp Fx.t D := h.1.imp fun h => Fx.time_le (lt_not h)
theorem Once.of_sort {S xs : List Fx} (hp : S.Perm xs) (hs : S.Pairwise fun p q => ¬ q.lt p) : Once xs (ddU S S.length) :=
  ⟨ddU_up hs _ (Nat.le_refl _), fun x => by rw [ddU_mem (Nat.le_refl _), List.take_length]; exact hp.mem_iff⟩
/-- what is kept of fixes that are in order, and what is noted -/
def cleanK (m1 : Int) (D : List Fx) : List Fx := (runG Fx.t (nearB m1) D D.length).1
def cleanI (m1 : Int) (D : List Fx) : List (Int × Int) := (runG Fx.t (nearB m1) D D.length).2.2 ++ offsG Fx.t (runG Fx.t (nearB m1) D D.length).2.1
end Go.Proofs.Yteoikaedpgianaa
