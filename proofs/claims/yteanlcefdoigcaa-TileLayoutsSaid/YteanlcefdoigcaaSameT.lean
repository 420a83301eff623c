/- Two lists of points, two lists of tiles that are the same: the reference says so. -/
import Derived.Test.YteanlcefdoigcaaLayX
namespace Go.Proofs.Yteanlcefdoigcaa
open Go.RowKit Go.Maps Go.Sort

/-- a slice of points, as it lies in memory -/
def PtsV (W : World) (v : Value) (l : List Pt) : Prop := ∃ a cap, v = .slice a l.length cap ∧ (l = [] ∨ ∃ b off, a = some ⟨b, off, none⟩ ∧ b < W.heap.size ∧ RowsAt W b off 9 (l.map Pt.row))
theorem OwnP.ptsV {W : World} {base : Nat} {v : Value} {l : List Pt} (h : OwnP W base v l) : PtsV W v l := by
  by_cases hl : l = []
  · obtain ⟨a, cap, hv⟩ := h.slice
    exact ⟨a, cap, hv, Or.inl hl⟩
  · have hp : 0 < l.length := List.length_pos_iff.2 hl
    obtain ⟨g, cap, cur, h1, hb, h2, h3, _⟩ := OwnR.rows h (by simpa using hp)
    rw [List.length_map] at h1
    exact ⟨_, cap, h1, Or.inr ⟨g, 0, rfl, (Array.getElem?_eq_some_iff.1 h2).1, h3⟩⟩
theorem PtsV.still {W W' : World} {v : Value} {l : List Pt} (h : PtsV W v l) (hb : Below W.heap.size W W') : PtsV W' v l := by
  obtain ⟨a, cap, h1, h2⟩ := h
  refine ⟨a, cap, h1, ?_⟩
  rcases h2 with h2 | ⟨b, off, h3, h4, h5⟩
  · exact Or.inl h2
  · exact Or.inr ⟨b, off, h3, Nat.lt_of_lt_of_le h4 hb.size, h5.still hb h4⟩
theorem PtsV.below {B : Nat} {W W' : World} {v : Value} {l : List Pt} (h : PtsV W v l) (hb : Below B W W') (hB : B = W.heap.size := by rfl) : PtsV W' v l := by
  subst hB
  exact h.still hb
/-- a slice of tiles, as it lies in memory -/
def TilesV (W : World) (v : Value) (E : List Te) : Prop := (∃ a cap, v = .slice a E.length cap ∧ (E = [] ∨ ∃ b off, a = some ⟨b, off, none⟩ ∧ b < W.heap.size ∧ RowsAt W b off 5 (E.map Te.row))) ∧ ∀ e ∈ E, PtsV W e.v e.pts
theorem TilesIn.tilesV {W : World} {base : Nat} {v : Value} {E : List Te} (h : TilesIn W base v E) : TilesV W v E := by
  refine ⟨?_, fun e he => (h.2 e he).ptsV⟩
  by_cases hl : E = []
  · obtain ⟨a, cap, hv⟩ := OwnR.slice h.1
    rw [List.length_map] at hv
    exact ⟨a, cap, hv, Or.inl hl⟩
  · have hp : 0 < E.length := List.length_pos_iff.2 hl
    obtain ⟨g, cap, cur, h1, hb, h2, h3, _⟩ := OwnR.rows h.1 (by simpa using hp)
    rw [List.length_map] at h1
    exact ⟨_, cap, h1, Or.inr ⟨g, 0, rfl, (Array.getElem?_eq_some_iff.1 h2).1, h3⟩⟩
theorem TilesV.still {W W' : World} {v : Value} {E : List Te} (h : TilesV W v E) (hb : Below W.heap.size W W') : TilesV W' v E := by
  obtain ⟨⟨a, cap, h1, h2⟩, h6⟩ := h
  refine ⟨⟨a, cap, h1, ?_⟩, fun e he => (h6 e he).still hb⟩
  rcases h2 with h2 | ⟨b, off, h3, h4, h5⟩
  · exact Or.inl h2
  · exact Or.inr ⟨b, off, h3, Nat.lt_of_lt_of_le h4 hb.size, h5.still hb h4⟩
theorem lay_pts (pv : Value) (S : List Pt) (c : Nat) (w : World) (hS : GoodS S) (hfine : ∀ p ∈ S, p.fine) (hlen : S.length ≤ 4096) (hp : PtsV w pv S) :
    Calls Try.prog 49 #[pv, .int .i64 c] w fun r w' => (∃ v E, r = .returned v ∧ TilesIn w' w.heap.size v E ∧ IsLayout S c (E.map Te.tl)) ∧ Below w.heap.size w w' := by
  refine lay_gen pv S c w hS hfine hlen ?_
  obtain ⟨a, cap, rfl, h⟩ := hp
  rcases h with rfl | ⟨b, off, rfl, hb, hr⟩
  · exact clone_empty a cap w
  · exact clone_pts b off cap S w hlen hb hr
theorem flat36e : flatOf Try.prog 10 36 = some [some .i64, some .i64, some .i64, some .i64, some .i64, some .i64, some .i64, some .i64, some .i64] := by kernel_rfl
theorem eq36s (a b c d e f g h i : Int) (W : World) : (Op.equalIn 10000 36 (.agg #[.int .i64 a, .int .i64 b, .int .i64 c, .int .i64 d, .int .i64 e, .int .i64 f, .int .i64 g, .int .i64 h, .int .i64 i]) (.agg #[.int .i64 a, .int .i64 b, .int .i64 c, .int .i64 d, .int .i64 e, .int .i64 f, .int .i64 g, .int .i64 h, .int .i64 i])).run Try.prog W = .ok true W := by
  have h := equal_struct Try.underlying36 flat36e [.int .i64 a, .int .i64 b, .int .i64 c, .int .i64 d, .int .i64 e, .int .i64 f, .int .i64 g, .int .i64 h, .int .i64 i] [.int .i64 a, .int .i64 b, .int .i64 c, .int .i64 d, .int .i64 e, .int .i64 f, .int .i64 g, .int .i64 h, .int .i64 i] rfl rfl W
  rw [sameL_refl (ks := [some .i64, some .i64, some .i64, some .i64, some .i64, some .i64, some .i64, some .i64, some .i64]) rfl] at h
  exact h
theorem flat39k : flatOf Try.prog 10 39 = some [some .i64, some .i64, some .i64, some .i64] := by kernel_rfl
theorem eq39k (a b c d : Int) (W : World) : (Op.equalIn 10000 39 (.agg #[.int .i64 a, .int .i64 b, .int .i64 c, .int .i64 d]) (.agg #[.int .i64 a, .int .i64 b, .int .i64 c, .int .i64 d])).run Try.prog W = .ok true W := by
  have h := equal_struct Try.underlying39 flat39k [.int .i64 a, .int .i64 b, .int .i64 c, .int .i64 d] [.int .i64 a, .int .i64 b, .int .i64 c, .int .i64 d] rfl rfl W
  rw [sameL_refl (ks := [some .i64, some .i64, some .i64, some .i64]) rfl] at h
  exact h
set_option maxRecDepth 100000 in
set_option maxHeartbeats 1600000 in
theorem same_pts (va vb : Value) (l : List Pt) (w : World) (ha : PtsV w va l) (hb : PtsV w vb l) (hn : l.length ≤ 4096) :
    Calls Try.prog 28 #[va, vb] w fun e w' => e = .returned (.bool true) ∧ Below w.heap.size w w' := by
  obtain ⟨aa, ca, rfl, ha2⟩ := ha
  obtain ⟨ab, cb, rfl, hb2⟩ := hb
  obtain ⟨n, hnl⟩ : ∃ n, n = l.length := ⟨_, rfl⟩
  rw [← hnl] at hn ⊢
  by_cases hl : l = []
  · subst hl
    obtain rfl : n = 0 := hnl
    clear ha2 hb2
    go_enter Try.func28, Try.ntmps28
    go_wp2_with fail
    refine wp_loop_rounds 1 ?_
    rw [rounds_succ]
    go_wp2_with fail
    go_ret
    exact ⟨rfl, by (repeat' (first | (with_reducible exact Below.refl _ _) | (with_reducible assumption) | (with_reducible refine Below.alloc ?_ ?_ _) | (with_reducible refine Below.drew ?_) | (with_reducible refine below_drewN ?_ _) | (with_reducible refine Below.setCell ?_ ?_ _) | (with_reducible refine below_setRow ?_ ?_ _) | go_size))⟩
  · obtain ⟨b1, o1, rfl, hb1, hr1⟩ := ha2.resolve_left hl
    obtain ⟨b2, o2, rfl, hb2', hr2⟩ := hb2.resolve_left hl
    have H1 := hid hr1
    have H2 := hid hr2
    have HNL := hid hnl

    clear ha2 hb2 hl hr1 hr2 hnl
    have heq := eq36s
    go_enter Try.func28, Try.ntmps28
    go_wp2_with fail
    go_loopw [13] (fun iv W => ∃ k : Nat, k ≤ n ∧ iv = .int .i64 (k : Int) ∧ Below w.heap.size w W) (fun iv _ => n - (intOf iv).toNat)
    case atStart => exact ⟨0, by omega, rfl, Below.refl _ _⟩
    case round =>
      obtain ⟨k, hk, rfl, hB⟩ := hrel
      have HBW := hid hB
      have hzw := hB.size
      by_cases hlt : k < n
      · obtain ⟨p, hp⟩ : ∃ p, l[k]? = some p := ⟨_, List.getElem?_eq_getElem (by rw [← HNL.out]; exact hlt)⟩
        have hc1 : ∀ j, j < 9 → wr.cell? ⟨b1, o1 + k * 9 + j, none⟩ = some (.int .i64 (p.f j)) := fun j hj => by
          rw [hB.cell hb1, H1.out k p.row (by rw [List.getElem?_map, hp]; rfl) j hj, Pt.row_at p j hj]
        have hc2 : ∀ j, j < 9 → wr.cell? ⟨b2, o2 + k * 9 + j, none⟩ = some (.int .i64 (p.f j)) := fun j hj => by
          rw [hB.cell hb2', H2.out k p.row (by rw [List.getElem?_map, hp]; rfl) j hj, Pt.row_at p j hj]
        obtain ⟨p0, p1, p2, p3, p4, p5, p6, p7, p8⟩ := p
        have d3 : decide ((k : Int) < (n : Int)) = true := decide_eq_true (by omega)
        have hk0 : (0 : Int) ≤ (k : Int) := by omega
        have a0 := fun d os => cell_regrown (show wr.cell? ⟨b1, o1 + k * 9, none⟩ = some (.int .i64 p0) from hc1 0 (by decide)) d os
        have a1 := fun d os => cell_regrown (show wr.cell? ⟨b1, o1 + k * 9 + 1, none⟩ = some (.int .i64 p1) from hc1 1 (by decide)) d os
        have a2 := fun d os => cell_regrown (show wr.cell? ⟨b1, o1 + k * 9 + 2, none⟩ = some (.int .i64 p2) from hc1 2 (by decide)) d os
        have a3 := fun d os => cell_regrown (show wr.cell? ⟨b1, o1 + k * 9 + 3, none⟩ = some (.int .i64 p3) from hc1 3 (by decide)) d os
        have a4 := fun d os => cell_regrown (show wr.cell? ⟨b1, o1 + k * 9 + 4, none⟩ = some (.int .i64 p4) from hc1 4 (by decide)) d os
        have a5 := fun d os => cell_regrown (show wr.cell? ⟨b1, o1 + k * 9 + 5, none⟩ = some (.int .i64 p5) from hc1 5 (by decide)) d os
        have a6 := fun d os => cell_regrown (show wr.cell? ⟨b1, o1 + k * 9 + 6, none⟩ = some (.int .i64 p6) from hc1 6 (by decide)) d os
        have a7 := fun d os => cell_regrown (show wr.cell? ⟨b1, o1 + k * 9 + 7, none⟩ = some (.int .i64 p7) from hc1 7 (by decide)) d os
        have a8 := fun d os => cell_regrown (show wr.cell? ⟨b1, o1 + k * 9 + 8, none⟩ = some (.int .i64 p8) from hc1 8 (by decide)) d os
        have b0 := fun d os => cell_regrown (show wr.cell? ⟨b2, o2 + k * 9, none⟩ = some (.int .i64 p0) from hc2 0 (by decide)) d os
        have b1' := fun d os => cell_regrown (show wr.cell? ⟨b2, o2 + k * 9 + 1, none⟩ = some (.int .i64 p1) from hc2 1 (by decide)) d os
        have b2' := fun d os => cell_regrown (show wr.cell? ⟨b2, o2 + k * 9 + 2, none⟩ = some (.int .i64 p2) from hc2 2 (by decide)) d os
        have b3 := fun d os => cell_regrown (show wr.cell? ⟨b2, o2 + k * 9 + 3, none⟩ = some (.int .i64 p3) from hc2 3 (by decide)) d os
        have b4 := fun d os => cell_regrown (show wr.cell? ⟨b2, o2 + k * 9 + 4, none⟩ = some (.int .i64 p4) from hc2 4 (by decide)) d os
        have b5 := fun d os => cell_regrown (show wr.cell? ⟨b2, o2 + k * 9 + 5, none⟩ = some (.int .i64 p5) from hc2 5 (by decide)) d os
        have b6 := fun d os => cell_regrown (show wr.cell? ⟨b2, o2 + k * 9 + 6, none⟩ = some (.int .i64 p6) from hc2 6 (by decide)) d os
        have b7 := fun d os => cell_regrown (show wr.cell? ⟨b2, o2 + k * 9 + 7, none⟩ = some (.int .i64 p7) from hc2 7 (by decide)) d os
        have b8 := fun d os => cell_regrown (show wr.cell? ⟨b2, o2 + k * 9 + 8, none⟩ = some (.int .i64 p8) from hc2 8 (by decide)) d os
        clear hB hc1 hc2 hp
        go_wp2_with fail
        refine wp_region_quiet_below (by kernel_rfl) (by kernel_rfl) ?_
        repeat (first | go_big_quiet_step (fail) | quiet_step (fail))
        refine wpQuiet_nil ?_
        intro _ hw'
        obtain ⟨⟨dq, osq⟩, hw2⟩ := hw'
        subst hw2
        have HB3 := hid (HBW.out.trans ((below_regrown wr dq osq).mono hzw))
        clear a0 a1 a2 a3 a4 a5 a6 a7 a8 b0 b1' b2' b3 b4 b5 b6 b7 b8
        go_wp2_with fail
        exact ⟨⟨k + 1, by omega, by go_num, HB3.out⟩, by simp [intOf]; omega⟩
      · obtain rfl : k = n := by omega
        have d3 : decide ((k : Int) < (k : Int)) = false := by simp
        clear hB
        go_wp2_with fail
        go_ret
        exact ⟨rfl, HBW.out⟩
set_option maxRecDepth 100000 in
set_option maxHeartbeats 1600000 in
/-- the same tiles, in two places -/
theorem same_tiles (va vb : Value) (E F : List Te) (w : World) (ha : TilesV w va E) (hb : TilesV w vb F) (hEF : E.map Te.tl = F.map Te.tl) (hn : E.length ≤ 1000000) (hp : ∀ e ∈ E, e.pts.length ≤ 4096) :
    Calls Try.prog 17 #[va, vb] w fun e w' => e = .returned (.bool true) ∧ Below w.heap.size w w' := by
  obtain ⟨⟨aa, ca, rfl, ha2⟩, hpa⟩ := ha
  obtain ⟨⟨ab, cb, rfl, hb2⟩, hpb⟩ := hb
  have hlen : F.length = E.length := by have := congrArg List.length hEF; simpa using this.symm
  rw [hlen]
  obtain ⟨n, hnl⟩ : ∃ n, n = E.length := ⟨_, rfl⟩
  rw [← hnl] at hn ⊢
  by_cases hl : E = []
  · subst hl
    obtain rfl : n = 0 := hnl
    clear ha2 hb2 hpa hpb hEF hlen hp
    go_enter Try.func17, Try.ntmps17
    go_wp2_with fail
    refine wp_loop_rounds 1 ?_
    rw [rounds_succ]
    go_wp2_with fail
    go_ret
    exact ⟨rfl, by (repeat' (first | (with_reducible exact Below.refl _ _) | (with_reducible assumption) | (with_reducible refine Below.alloc ?_ ?_ _) | (with_reducible refine Below.drew ?_) | (with_reducible refine below_drewN ?_ _) | (with_reducible refine Below.setCell ?_ ?_ _) | (with_reducible refine below_setRow ?_ ?_ _) | go_size))⟩
  · have hl2 : F ≠ [] := fun e => hl (by have := hlen; rw [e] at this; exact List.eq_nil_of_length_eq_zero this.symm)
    obtain ⟨b1, o1, rfl, hb1, hr1⟩ := ha2.resolve_left hl
    obtain ⟨b2, o2, rfl, hb2', hr2⟩ := hb2.resolve_left hl2
    have H1 := hid hr1
    have H2 := hid hr2
    have HNL := hid hnl
    have HPA := hid hpa
    have HPB := hid hpb
    have HEF := hid hEF
    have HLEN := hid hlen
    have HPP := hid hp
    clear ha2 hb2 hl hl2 hr1 hr2 hnl hpa hpb hEF hlen hp
    have heq := eq39k
    go_enter Try.func17, Try.ntmps17
    go_wp2_with fail
    go_loopw [13] (fun iv W => ∃ k : Nat, k ≤ n ∧ iv = .int .i64 (k : Int) ∧ Below w.heap.size w W) (fun iv _ => n - (intOf iv).toNat)
    case atStart => exact ⟨0, by omega, rfl, Below.refl _ _⟩
    case round =>
      obtain ⟨k, hk, rfl, hB⟩ := hrel
      have HBW := hid hB
      have hzw := hB.size
      by_cases hlt : k < n
      · obtain ⟨e, he⟩ : ∃ e, E[k]? = some e := ⟨_, List.getElem?_eq_getElem (by rw [← HNL.out]; exact hlt)⟩
        obtain ⟨f, hf⟩ : ∃ f, F[k]? = some f := ⟨_, List.getElem?_eq_getElem (by rw [HLEN.out, ← HNL.out]; exact hlt)⟩
        have htl : e.tl = f.tl := by
          have := congrArg (fun l => l[k]?) HEF.out
          simp [he, hf] at this
          exact this
        have hk1 : e.key = f.key := congrArg Tl.key htl
        have hp1 : e.pts = f.pts := congrArg Tl.pts htl
        have hpe : PtsV wr e.v e.pts := PtsV.below (HPA.out e (List.mem_of_getElem? he)) hB
        have hpf : PtsV wr f.v e.pts := by rw [hp1]; exact PtsV.below (HPB.out f (List.mem_of_getElem? hf)) hB
        have HSP := hid (fun d os => same_pts e.v f.v e.pts (grow (redrawn wr d) os) (hpe.still (below_regrown wr d os)) (hpf.still (below_regrown wr d os)) (HPP.out e (List.mem_of_getElem? he)))
        have hc1 : ∀ j, j < 5 → wr.cell? ⟨b1, o1 + k * 5 + j, none⟩ = e.row[j]? := fun j hj => by
          rw [hB.cell hb1, H1.out k e.row (by rw [List.getElem?_map, he]; rfl) j hj]
        have hc2 : ∀ j, j < 5 → wr.cell? ⟨b2, o2 + k * 5 + j, none⟩ = f.row[j]? := fun j hj => by
          rw [hB.cell hb2', H2.out k f.row (by rw [List.getElem?_map, hf]; rfl) j hj]
        obtain ⟨⟨k0, k1, k2, k3⟩, ev, ep⟩ := e
        obtain ⟨fk, fv, fp⟩ := f
        obtain rfl : (⟨k0, k1, k2, k3⟩ : Ky) = fk := hk1
        obtain ⟨eva, evc, hev, _⟩ := hpe
        obtain ⟨fva, fvc, hfv, _⟩ := hpf
        obtain rfl : ev = .slice eva ep.length evc := hev
        obtain rfl : fv = .slice fva ep.length fvc := hfv
        obtain ⟨m, hm⟩ : ∃ m, m = ep.length := ⟨_, rfl⟩
        simp only [← hm] at hc1 hc2 HSP
        clear hm
        have d3 : decide ((k : Int) < (n : Int)) = true := decide_eq_true (by omega)
        have hk0 : (0 : Int) ≤ (k : Int) := by omega
        have a0 := fun d os => cell_regrown (show wr.cell? ⟨b1, o1 + k * 5, none⟩ = some (.int .i64 k0) from hc1 0 (by decide)) d os
        have a1 := fun d os => cell_regrown (show wr.cell? ⟨b1, o1 + k * 5 + 1, none⟩ = some (.int .i64 k1) from hc1 1 (by decide)) d os
        have a2 := fun d os => cell_regrown (show wr.cell? ⟨b1, o1 + k * 5 + 2, none⟩ = some (.int .i64 k2) from hc1 2 (by decide)) d os
        have a3 := fun d os => cell_regrown (show wr.cell? ⟨b1, o1 + k * 5 + 3, none⟩ = some (.int .i64 k3) from hc1 3 (by decide)) d os
        have a4 := fun d os => cell_regrown (show wr.cell? ⟨b1, o1 + k * 5 + 4, none⟩ = some (.slice eva m evc) from hc1 4 (by decide)) d os
        have b0 := fun d os => cell_regrown (show wr.cell? ⟨b2, o2 + k * 5, none⟩ = some (.int .i64 k0) from hc2 0 (by decide)) d os
        have b1' := fun d os => cell_regrown (show wr.cell? ⟨b2, o2 + k * 5 + 1, none⟩ = some (.int .i64 k1) from hc2 1 (by decide)) d os
        have b2' := fun d os => cell_regrown (show wr.cell? ⟨b2, o2 + k * 5 + 2, none⟩ = some (.int .i64 k2) from hc2 2 (by decide)) d os
        have b3 := fun d os => cell_regrown (show wr.cell? ⟨b2, o2 + k * 5 + 3, none⟩ = some (.int .i64 k3) from hc2 3 (by decide)) d os
        have b4 := fun d os => cell_regrown (show wr.cell? ⟨b2, o2 + k * 5 + 4, none⟩ = some (.slice fva m fvc) from hc2 4 (by decide)) d os
        clear hB hc1 hc2 he hf htl hp1
        go_wp2_with fail
        refine wp_region_quiet_below (by kernel_rfl) (by kernel_rfl) ?_
        repeat (first | go_big_quiet_step (first | (go_at_call 28; exact Calls.regrown_of (HSP.out _ _))) | quiet_step (first | (go_at_call 28; exact Calls.regrown_of (HSP.out _ _))))
        refine wpQuiet_nil ?_
        intro _ hw'
        obtain ⟨⟨dq, osq⟩, hw2⟩ := hw'
        subst hw2
        have HB3 := hid (HBW.out.trans ((below_regrown wr dq osq).mono hzw))
        clear a0 a1 a2 a3 a4 b0 b1' b2' b3 b4
        go_wp2_with fail
        exact ⟨⟨k + 1, by omega, by go_num, HB3.out⟩, by simp [intOf]; omega⟩
      · obtain rfl : k = n := by omega
        have d3 : decide ((k : Int) < (k : Int)) = false := by simp
        clear hB
        go_wp2_with fail
        go_ret
        exact ⟨rfl, HBW.out⟩
end Go.Proofs.Yteanlcefdoigcaa
