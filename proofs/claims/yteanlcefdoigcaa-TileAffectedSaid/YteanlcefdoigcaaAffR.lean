/- Two appends behind one another in a region that draws its order (TileAffected's list of all points); chain (34). -/
import Derived.Test.YteanlcefdoigcaaUpdX
import Derived.Test.YteanlcefdoigcaaRLay
import Derived.Test.YteanlcefdoigcaaTlsX
import Derived.Test.YteanlcefdoigcaaLawKit
namespace Go.Proofs.Yteanlcefdoigcaa
open Go.ChangeShapes Go.WideShapes Go.ChangeAt Go.RowKit Go.Maps Go.Sort

/-- what holds while the operations are done in whatever order -/
structure AffR (W1 : World) (S : List Pt) (p : Pt) (tv : Value) (L : Nat → Bool) (us : Nat → Value) (W : World) : Prop where
  below : Below W1.heap.size W1 W
  v0 : L 0 = true → L 2 = false → OwnP W W1.heap.size (us 0) []
  v1 : L 1 = true → us 1 = tv
  v2 : L 2 = true → L 5 = false → OwnP W W1.heap.size (us 2) S
  v3 : L 3 = true → us 3 = .agg p.row.toArray
  v4 : L 4 = true → L 5 = false → ∃ g, us 4 = .slice (some ⟨g, 0, none⟩) 1 1 ∧ W1.heap.size ≤ g ∧ W.heap[g]? = some (.cells p.row.toArray 36) ∧ (L 0 = true → L 2 = false → (us 0).ownBlock ≠ some g) ∧ (L 2 = true → (us 2).ownBlock ≠ some g)
  v5 : L 5 = true → OwnP W W1.heap.size (us 5) (S ++ [p])
  v6 : L 6 = true → us 6 = us 5
  d2 : L 2 = true → L 0 = true ∧ L 1 = true
  d4 : L 4 = true → L 3 = true
  d5 : L 5 = true → L 2 = true ∧ L 4 = true
  d6 : L 6 = true → L 5 = true
section
variable {W1 W W' : World} {S : List Pt} {p : Pt} {tv v : Value} {L : Nat → Bool} {us : Nat → Value}
theorem AffR.start : AffR W1 S p tv (fun _ => false) us W1.drew := by
  refine ⟨(Below.refl _ _).drew, ?_, ?_, ?_, ?_, ?_, ?_, ?_, ?_, ?_, ?_, ?_⟩
  all_goals exact fun h => absurd h (by simp)
theorem no_of {L : Nat → Bool} {a b : Nat} (hab : L b = true → L a = true) (hL : L a = false) : L b = false := by
  cases hb : L b
  · rfl
  · rw [hab hb] at hL; exact absurd hL (by simp)
theorem AffR.new0 (h : AffR W1 S p tv L us W) (hL : L 0 = false) (hB : Below W.heap.size W W') (hv : OwnP W' W1.heap.size v []) (hn : ∀ g, v.ownBlock = some g → W.heap.size ≤ g) : AffR W1 S p tv (fun j => j == 0 || L j) (updF us 0 v) W' := by
  have h2 := no_of (fun g => (h.d2 g).1) hL
  have h5 := no_of (fun g => (h.d5 g).1) h2
  have h6 := no_of h.d6 h5
  refine ⟨h.below.trans (hB.mono h.below.size), ?_, ?_, ?_, ?_, ?_, ?_, ?_, ?_, ?_, ?_, ?_⟩
  · intro _ _; simpa [updF] using hv
  · intro hl; simpa [updF] using h.v1 (by simpa using hl)
  · intro hl; simp [h2] at hl
  · intro hl; simpa [updF] using h.v3 (by simpa using hl)
  · intro hl _
    obtain ⟨g, g1, g2, g3, g4, g5⟩ := h.v4 (by simpa using hl) h5
    refine ⟨g, by simpa [updF] using g1, g2, heap_still hB g3, ?_, ?_⟩
    · intro _ _ e
      have e' : v.ownBlock = some g := by simpa [updF] using e
      have := hn g e'
      have := (Array.getElem?_eq_some_iff.1 g3).1
      omega
    · intro hl2; simp [h2] at hl2
  · intro hl; simp [h5] at hl
  · intro hl; simp [h6] at hl
  · intro hl; simp [h2] at hl
  · intro hl; simpa using h.d4 (by simpa using hl)
  · intro hl; simp [h5] at hl
  · intro hl; simp [h6] at hl
theorem AffR.new1 (h : AffR W1 S p tv L us W) (hL : L 1 = false) (hv : v = tv) : AffR W1 S p tv (fun j => j == 1 || L j) (updF us 1 v) W := by
  have h2 := no_of (fun g => (h.d2 g).2) hL
  have h5 := no_of (fun g => (h.d5 g).1) h2
  have h6 := no_of h.d6 h5
  refine ⟨h.below, ?_, ?_, ?_, ?_, ?_, ?_, ?_, ?_, ?_, ?_, ?_⟩
  · intro hl _; simpa [updF] using h.v0 (by simpa using hl) h2
  · intro _; simpa [updF] using hv
  · intro hl; simp [h2] at hl
  · intro hl; simpa [updF] using h.v3 (by simpa using hl)
  · intro hl _
    obtain ⟨g, g1, g2, g3, g4, g5⟩ := h.v4 (by simpa using hl) h5
    exact ⟨g, by simpa [updF] using g1, g2, g3, fun a b => by simpa [updF] using g4 (by simpa using a) (by simpa using b), fun a => by simp [h2] at a⟩
  · intro hl; simp [h5] at hl
  · intro hl; simp [h6] at hl
  · intro hl; simp [h2] at hl
  · intro hl; simpa using h.d4 (by simpa using hl)
  · intro hl; simp [h5] at hl
  · intro hl; simp [h6] at hl
theorem AffR.new2 (h : AffR W1 S p tv L us W) (hL : L 2 = false) (h0 : L 0 = true) (h1 : L 1 = true) (hg : W.grownBy W' (us 0).ownBlock) (hv : OwnP W' W1.heap.size v S) (hn : v.ownBlock = (us 0).ownBlock ∨ v.ownBlock = some W.heap.size) : AffR W1 S p tv (fun j => j == 2 || L j) (updF us 2 v) W' := by
  have h5 := no_of (fun g => (h.d5 g).1) hL
  have h6 := no_of h.d6 h5
  have hO := h.v0 h0 hL
  refine ⟨h.below.grown hg h.below.size (fun k hk => OwnR.ownBlock hO k hk), ?_, ?_, ?_, ?_, ?_, ?_, ?_, ?_, ?_, ?_, ?_⟩
  · intro _ hl; simp at hl
  · intro hl; simpa [updF] using h.v1 h1
  · intro _ _; simpa [updF] using hv
  · intro hl; simpa [updF] using h.v3 (by simpa using hl)
  · intro hl _
    obtain ⟨g, g1, g2, g3, g4, g5⟩ := h.v4 (by simpa using hl) h5
    have hlt := (Array.getElem?_eq_some_iff.1 g3).1
    refine ⟨g, by simpa [updF] using g1, g2, (hg.block g hlt (fun e => g4 h0 hL e.symm)).trans g3, ?_, ?_⟩
    · intro _ hl2; simp at hl2
    · intro _ e
      have e' : v.ownBlock = some g := by simpa [updF] using e
      rcases hn with hn | hn
      · exact g4 h0 hL (hn ▸ e')
      · rw [hn] at e'
        injection e' with e'
        omega
  · intro hl; simp [h5] at hl
  · intro hl; simp [h6] at hl
  · intro _; simpa using ⟨h0, h1⟩
  · intro hl; simpa using h.d4 (by simpa using hl)
  · intro hl; simp [h5] at hl
  · intro hl; simp [h6] at hl
theorem AffR.new3 (h : AffR W1 S p tv L us W) (hL : L 3 = false) (hv : v = .agg p.row.toArray) : AffR W1 S p tv (fun j => j == 3 || L j) (updF us 3 v) W := by
  have h4 := no_of h.d4 hL
  have h5 := no_of (fun g => (h.d5 g).2) h4
  have h6 := no_of h.d6 h5
  refine ⟨h.below, ?_, ?_, ?_, ?_, ?_, ?_, ?_, ?_, ?_, ?_, ?_⟩
  · intro hl hl2; simpa [updF] using h.v0 (by simpa using hl) (by simpa using hl2)
  · intro hl; simpa [updF] using h.v1 (by simpa using hl)
  · intro hl _; simpa [updF] using h.v2 (by simpa using hl) h5
  · intro _; simpa [updF] using hv
  · intro hl; simp [h4] at hl
  · intro hl; simp [h5] at hl
  · intro hl; simp [h6] at hl
  · intro hl; simpa using h.d2 (by simpa using hl)
  · intro hl; simp [h4] at hl
  · intro hl; simp [h5] at hl
  · intro hl; simp [h6] at hl
theorem AffR.new4 (h : AffR W1 S p tv L us W) (hL : L 4 = false) (h3 : L 3 = true) : AffR W1 S p tv (fun j => j == 4 || L j) (updF us 4 (.slice (some ⟨W.heap.size, 0, none⟩) 1 1)) (W.alloc (.cells p.row.toArray 36)) := by
  have h5 := no_of (fun g => (h.d5 g).2) hL
  have h6 := no_of h.d6 h5
  have hB : Below W.heap.size W (W.alloc (.cells p.row.toArray 36)) := (Below.refl _ _).alloc (Nat.le_refl _) _
  refine ⟨h.below.trans (hB.mono h.below.size), ?_, ?_, ?_, ?_, ?_, ?_, ?_, ?_, ?_, ?_, ?_⟩
  · intro hl hl2; simpa [updF] using (show OwnP _ _ _ _ from OwnR.grow' (h.v0 (by simpa using hl) (by simpa using hl2)) hB)
  · intro hl; simpa [updF] using h.v1 (by simpa using hl)
  · intro hl _; simpa [updF] using (show OwnP _ _ _ _ from OwnR.grow' (h.v2 (by simpa using hl) h5) hB)
  · intro hl; simpa [updF] using h.v3 h3
  · intro _ _
    refine ⟨W.heap.size, by simp [updF], h.below.size, heap_alloc_at _ _ _ rfl, ?_, ?_⟩
    · intro hl hl2 e
      have := OwnR.lt (h.v0 (by simpa using hl) (by simpa using hl2)) (by simpa [updF] using e)
      omega
    · intro hl e
      have := OwnR.lt (h.v2 (by simpa using hl) h5) (by simpa [updF] using e)
      omega
  · intro hl; simp [h5] at hl
  · intro hl; simp [h6] at hl
  · intro hl; simpa using h.d2 (by simpa using hl)
  · intro _; simpa using h3
  · intro hl; simp [h5] at hl
  · intro hl; simp [h6] at hl
theorem AffR.new5 (h : AffR W1 S p tv L us W) (hL : L 5 = false) (h2 : L 2 = true) (h4 : L 4 = true) (hg : W.grownBy W' (us 2).ownBlock) (hv : OwnP W' W1.heap.size v (S ++ [p])) : AffR W1 S p tv (fun j => j == 5 || L j) (updF us 5 v) W' := by
  have h6 := no_of h.d6 hL
  have hO := h.v2 h2 hL
  refine ⟨h.below.grown hg h.below.size (fun k hk => OwnR.ownBlock hO k hk), ?_, ?_, ?_, ?_, ?_, ?_, ?_, ?_, ?_, ?_, ?_⟩
  · intro _ hl; simp [h2] at hl
  · intro hl; simpa [updF] using h.v1 (by simpa using hl)
  · intro _ hl; simp at hl
  · intro hl; simpa [updF] using h.v3 (by simpa using hl)
  · intro _ hl; simp at hl
  · intro _; simpa [updF] using hv
  · intro hl; simp [h6] at hl
  · intro hl; simpa using h.d2 (by simpa using hl)
  · intro hl; simpa using h.d4 (by simpa using hl)
  · intro _; simpa using ⟨h2, h4⟩
  · intro hl; simp [h6] at hl
theorem AffR.new6 (h : AffR W1 S p tv L us W) (h5 : L 5 = true) (hv : v = us 5) : AffR W1 S p tv (fun j => j == 6 || L j) (updF us 6 v) W := by
  refine ⟨h.below, ?_, ?_, ?_, ?_, ?_, ?_, ?_, ?_, ?_, ?_, ?_⟩
  · intro hl hl2; simpa [updF] using h.v0 (by simpa using hl) (by simpa using hl2)
  · intro hl; simpa [updF] using h.v1 (by simpa using hl)
  · intro _ hl; simp [h5] at hl
  · intro hl; simpa [updF] using h.v3 (by simpa using hl)
  · intro _ hl; simp [h5] at hl
  · intro _; simpa [updF] using h.v5 h5
  · intro _; simpa [updF] using hv
  · intro hl; simpa using h.d2 (by simpa using hl)
  · intro hl; simpa using h.d4 (by simpa using hl)
  · intro hl; simpa using h.d5 h5
  · intro _; simpa using h5
end
set_option maxRecDepth 100000 in
set_option maxHeartbeats 1600000 in
theorem chain_any (v : Value) (K : List Ky) (w : World) (hv : KeysV w v K) (hn : K.length ≤ maxLen) (hne : K ≠ []) (hl : Linked K) : Calls Try.prog 34 #[v] w fun r w' => r = .returned (.bool true) ∧ Below w.heap.size w w' := by
  obtain ⟨a, c, rfl, h2⟩ := hv
  obtain ⟨b, off, rfl, hb, hr⟩ := h2.resolve_left hne
  obtain ⟨n, hnl⟩ : ∃ n, n = K.length := ⟨_, rfl⟩
  rw [← hnl] at hn ⊢
  have hn0 : 0 < n := by rw [hnl]; exact List.length_pos_iff.2 hne
  have hn63 : n ≤ 9223372036854775807 := by unfold maxLen at hn; omega
  have HN := hid hnl
  have HR := hid hr
  have HBB := hid hb
  have HL := hid hl
  have dn : decide ((0 : Int) < (n : Int)) = true := decide_eq_true (by omega)
  clear h2 hr hb hl hne hnl hn
  go_enter Try.func34, Try.ntmps34
  go_wp2_with fail
  go_loopw [3] (fun kv W => ∃ k : Nat, 1 ≤ k ∧ k ≤ n ∧ kv = .int .i64 (k : Int) ∧ Below w.heap.size w W) (fun kv _ => n - (intOf kv).toNat)
  case atStart => exact ⟨1, by omega, by omega, rfl, Below.refl _ _⟩
  case round =>
    obtain ⟨k, hk1, hk, rfl, hB⟩ := hrel
    have HB4 := hid hB
    have hz4 := hB.size
    clear hB
    by_cases hlt : k < n
    · have d1 : decide ((k : Int) < (n : Int)) = true := decide_eq_true (by omega)
      obtain ⟨y, hy⟩ : ∃ y, K[k]? = some y := ⟨_, List.getElem?_eq_getElem (by rw [← HN.out]; exact hlt)⟩
      obtain ⟨x, hx⟩ : ∃ x, K[k - 1]? = some x := ⟨_, List.getElem?_eq_getElem (by rw [← HN.out]; omega)⟩
      have hlk := (HL.out (k - 1) x y hx (by rw [show k - 1 + 1 = k by omega]; exact hy)).2
      have hys : ∀ j, j < 4 → wr.cell? ⟨b, off + k * 4 + j, none⟩ = y.row[j]? := fun j hj => by
        rw [HB4.out.cell HBB.out, HR.out k y.row (by rw [List.getElem?_map, hy]; rfl) j hj]
      have hxs : ∀ j, j < 4 → w.cell? ⟨b, off + (k - 1) * 4 + j, none⟩ = x.row[j]? := fun j hj => HR.out (k - 1) x.row (by rw [List.getElem?_map, hx]; rfl) j hj
      have HXS := hid hxs
      clear hy hx hxs
      obtain ⟨x0, x1, x2, x3⟩ := x
      obtain ⟨y0, y1, y2, y3⟩ := y
      have HAV := hid hlk
      simp only at HAV
      simp only [Ky.row] at hys
      clear hlk
      have a0 : wr.cell? ⟨b, off + k * 4, none⟩ = some (.int .i64 y0) := hys 0 (by decide)
      have a1 : wr.cell? ⟨b, off + k * 4 + 1, none⟩ = some (.int .i64 y1) := hys 1 (by decide)
      have a2 : wr.cell? ⟨b, off + k * 4 + 2, none⟩ = some (.int .i64 y2) := hys 2 (by decide)
      have a3 : wr.cell? ⟨b, off + k * 4 + 3, none⟩ = some (.int .i64 y3) := hys 3 (by decide)
      clear hys
      go_wp2_with fail
      refine (rAbove_any y0 y1 y2 y3 wr).mono ?_
      rintro r w5 ⟨rfl, hb5⟩
      rw [HAV.out]
      have HB5 := hid (HB4.out.trans (hb5.mono hz4))
      clear hb5 a0 a1 a2 a3
      go_upto_region 5 with fail
      refine gen_world (fun W6 hW6 => ?_)
      have HK6 := hid (show W6.heap[w5.heap.size]? = some (.cells #[.int .i64 x0, .int .i64 x1, .int .i64 x2, .int .i64 x3] 39) by rw [hW6]; exact heap_alloc_at _ _ _ rfl)
      have HB6 := hid (show Below w.heap.size w W6 by rw [hW6]; exact HB5.out.alloc HB5.out.size _)
      clear hW6
      obtain ⟨g, hg⟩ : ∃ g, g = w5.heap.size := ⟨_, rfl⟩
      rw [← hg] at HK6 ⊢
      clear hg
      have heq := eq39k x0 x1 x2 x3
      have c0 := fun d os => cell_regrown (show W6.cell? ⟨g, 0, none⟩ = some (.int .i64 x0) from (cell_row (j := 0) HK6.out).trans rfl) d os
      have c1 := fun d os => cell_regrown (show W6.cell? ⟨g, 1, none⟩ = some (.int .i64 x1) from (cell_row (j := 1) HK6.out).trans rfl) d os
      have c2 := fun d os => cell_regrown (show W6.cell? ⟨g, 2, none⟩ = some (.int .i64 x2) from (cell_row (j := 2) HK6.out).trans rfl) d os
      have c3 := fun d os => cell_regrown (show W6.cell? ⟨g, 3, none⟩ = some (.int .i64 x3) from (cell_row (j := 3) HK6.out).trans rfl) d os
      have b0 := fun d os => cell_regrown (show W6.cell? ⟨b, off + (k - 1) * 4, none⟩ = some (.int .i64 x0) from (HB6.out.cell HBB.out).trans (HXS.out 0 (by decide))) d os
      have b1 := fun d os => cell_regrown (show W6.cell? ⟨b, off + (k - 1) * 4 + 1, none⟩ = some (.int .i64 x1) from (HB6.out.cell HBB.out).trans (HXS.out 1 (by decide))) d os
      have b2 := fun d os => cell_regrown (show W6.cell? ⟨b, off + (k - 1) * 4 + 2, none⟩ = some (.int .i64 x2) from (HB6.out.cell HBB.out).trans (HXS.out 2 (by decide))) d os
      have b3 := fun d os => cell_regrown (show W6.cell? ⟨b, off + (k - 1) * 4 + 3, none⟩ = some (.int .i64 x3) from (HB6.out.cell HBB.out).trans (HXS.out 3 (by decide))) d os
      have dk : decide ((0 : Int) < (k : Int)) = true := decide_eq_true (by omega)
      have dk2 : 0 < k := by omega
      go_wp2_with fail
      refine wp_region_quiet_below (by kernel_rfl) (by kernel_rfl) ?_
      repeat (first | go_big_quiet_step (fail) | quiet_step (fail))
      refine wpQuiet_nil ?_
      intro _ hw'
      obtain ⟨⟨dqV, osV⟩, hw2⟩ := hw'
      subst hw2
      have HQV := hid (below_regrown W6 dqV osV)
      generalize Sort.grow (redrawn W6 dqV) osV = V at HQV ⊢
      have hsV := HQV.out.size
      have HBV := hid (HB6.out.trans (HQV.out.mono HB6.out.size))
      clear c0 c1 c2 c3 b0 b1 b2 b3
      go_wp2_with fail
      exact ⟨⟨k + 1, by omega, by omega, by go_num, HBV.out⟩, by simp [intOf]; omega⟩
    · obtain rfl : k = n := by omega
      have d1 : decide ((k : Int) < (k : Int)) = false := by simp
      go_wp2_with fail
      go_ret
      exact ⟨rfl, HB4.out⟩
/-- the update that adds the point, and the one that removes it -/
theorem add_one {S : List Pt} {p : Pt} (hg : goodL (S ++ [p]) = true) : goodL S = true ∧ goodL [p] = true ∧ mergeErr S [p] [] = 0 ∧ mergeErr (S ++ [p]) [] [p.id] = 0 ∧ keepL (S ++ [p]) [p.id] = S := by
  obtain ⟨h1, h2, h3⟩ := (goodL_iff _).1 hg
  rw [List.length_append] at h1
  have h1' : S.length + 1 ≤ 1024 := h1
  rw [List.pairwise_append] at h3
  have hne : ∀ q ∈ S, q.id ≠ p.id := fun q hq => h3.2.2 q hq p (List.mem_singleton.2 rfl)
  have hkeep : keepL (S ++ [p]) [p.id] = S := by
    unfold keepL
    rw [List.filter_append]
    have e1 : S.filter (fun q => !goneB [p.id] q) = S := by
      rw [List.filter_eq_self]
      intro q hq
      rw [Bool.not_eq_true', Bool.eq_false_iff, Ne, goneB_mem]
      simp
      exact hne q hq
    have e2 : [p].filter (fun q => !goneB [p.id] q) = [] := by
      rw [List.filter_eq_nil_iff]
      intro q hq
      obtain rfl := List.mem_singleton.1 hq
      simp [goneB]
    rw [e1, e2, List.append_nil]
  refine ⟨(goodL_iff _).2 ⟨by omega, fun q hq => h2 q (List.mem_append_left _ hq), h3.1⟩, (goodL_iff _).2 ⟨by simp, fun q hq => h2 q (List.mem_append_right _ hq), List.pairwise_singleton _ _⟩, ?_, ?_, hkeep⟩
  · refine mergeErr_ok GoneOk.nil ?_ ?_
    · intro a ha q hq
      obtain rfl := List.mem_singleton.1 ha
      rw [keepL_nil] at hq
      exact hne q hq
    · rw [keepL_nil]
      exact h1'
  · refine mergeErr_ok ⟨fun z hz => ?_, List.pairwise_singleton _ _⟩ (fun a ha => by simp at ha) ?_
    · obtain rfl := List.mem_singleton.1 hz
      exact ⟨p, List.mem_append_right _ (List.mem_singleton.2 rfl), rfl⟩
    · rw [hkeep]
      show S.length + 0 ≤ 1024
      omega
set_option maxRecDepth 100000 in
set_option maxHeartbeats 1600000 in
theorem affected_law (pv : Value) (S : List Pt) (p : Pt) (c : Int) (w : World) (hp : PtsV w pv S) (hp0 : NilV pv) (hnS : S.length * 72 ≤ 140737488351232) :
    Calls Try.prog 9 #[pv, .agg p.row.toArray, .int .i64 c] w fun r w' => r = .returned (.bool true) ∧ Below w.heap.size w w' := by
  have HP := hid hp
  have HP0 := hid hp0
  obtain ⟨pa, pc, rfl, hpd⟩ := hp
  obtain ⟨n, hn⟩ : ∃ n, n = S.length := ⟨_, rfl⟩
  rw [← hn] at HP HP0 hnS ⊢
  have HN := hid hn
  have HPD := hid hpd
  clear hp0 hn hpd
  obtain ⟨p0, p1, p2, p3, p4, p5, p6, p7, p8⟩ := p
  simp only [Pt.row]
  obtain ⟨i0, hi, hz0, hz1, hz2⟩ := info_parts info36
  have HI := hid hi
  have HZ0 := hid hz0
  have HZ1 := hid hz1
  have HZ2 := hid hz2
  clear hi hz0 hz1 hz2
  go_enter Try.func9, Try.ntmps9
  go_upto_region 1 with fail
  refine gen_world (fun W1 hW1 => ?_)
  have HE1 := hid (show W1.heap[w.heap.size]? = some (.cells #[.int .i64 p0, .int .i64 p1, .int .i64 p2, .int .i64 p3, .int .i64 p4, .int .i64 p5, .int .i64 p6, .int .i64 p7, .int .i64 p8] 36) by rw [hW1]; exact heap_alloc_at _ _ _ rfl)
  have HB1 := hid (show Below w.heap.size w W1 by rw [hW1]; exact (Below.refl _ _).alloc (Nat.le_refl _) _)
  clear hW1
  obtain ⟨g, hg⟩ : ∃ g, g = w.heap.size := ⟨_, rfl⟩
  rw [← hg] at HE1 ⊢
  clear hg
  have HG1 := hid (Array.getElem?_eq_some_iff.1 HE1.out).1
  have HX3 := hid (fun (W : World) (hb : Below W1.heap.size W1 W) => show ((S.map Pt.row = [] ∧ (pa = none → pc = 0)) ∨ ∃ b off, pa = some ⟨b, off, none⟩ ∧ RowsAt W b off 9 (S.map Pt.row)) by
    rcases HPD.out with h | ⟨b, off, h1, h2, h3⟩
    · refine Or.inl ⟨by rw [h]; rfl, fun e => HP0.out pc ?_⟩
      have hn0 : n = 0 := by rw [HN.out, h]; rfl
      rw [e, hn0]
    · exact Or.inr ⟨b, off, h1, (h3.still HB1.out h2).still hb (Nat.lt_of_lt_of_le h2 HB1.out.size)⟩)
  have HLN := hid (show (S.map Pt.row).length = n by rw [List.length_map]; exact HN.out.symm)
  have HWD := hid (wide_map (enc := Pt.row) (k := 9) (fun _ => rfl) Pt.row_one S)
  have HNS := hid hnS
  clear hnS
  refine gen_act (fun A0 hA => ?_)
  refine wp_region_by (by kernel_rfl) (by kernel_rfl) [some 18, some 19, some 20, some 21, some 22, some 23, some 7] rfl (by decide) (AffR W1 S ⟨p0, p1, p2, p3, p4, p5, p6, p7, p8⟩ (.slice pa n pc)) (selfF A0 _) (putF_self A0 _) AffR.start ?hs1 ?hend1
  case hs1 =>
    refine ⟨?_, ?_, ?_, ?_, ?_, ?_, ?_, trivial⟩
    · intro K L us W hK0 hL hd hR
      have hK := hid hK0
      have HR := hid hR
      clear hK0 hd hR
      simp only [putF]
      rw [hA]
      go_frame
      go_wp2_with fail
      exact hK.out _ _ _ (by rw [hA]; simp only [putF]; kernel_rfl) (HR.out.new0 hL ((Below.refl _ _).alloc (Nat.le_refl _) _) ⟨Wide.nil 9, rfl, Or.inr ⟨_, 0, #[], rfl, HR.out.below.size, heap_alloc_at _ _ _ rfl, Nat.le_refl _, by unfold maxLen; omega, rfl, rfl⟩⟩ (fun k hk => by have e : some W.heap.size = some k := hk; injection e with e; omega))
    · intro K L us W hK0 hL hd hR
      have hK := hid hK0
      have HR := hid hR
      clear hK0 hd hR
      simp only [putF]
      rw [hA]
      go_frame
      go_wp2_with fail
      exact hK.out _ _ _ (by rw [hA]; simp only [putF]; kernel_rfl) (HR.out.new1 hL rfl)
    · intro K L us W hK0 hL hd hR
      have hK := hid hK0
      have HR := hid hR
      have h01 : L 0 = true ∧ L 1 = true := by simpa [Region.binds] using hd
      have e1 := hR.v1 h01.2
      have HO := hid (hR.v0 h01.1 hL)
      have HX := hid (HX3.out W hR.below)
      have HL1 := hid (show ([] : List (List Value)).length + (S.map Pt.row).length ≤ maxLen by rw [HLN.out]; show 0 + n ≤ maxLen; have := HNS.out; unfold maxLen; omega)
      have HL2 := hid (show (([] : List (List Value)).length + (S.map Pt.row).length) * 72 ≤ 140737488355328 by rw [HLN.out]; show (0 + n) * 72 ≤ _; have := HNS.out; omega)
      have HH := hid h01
      have hzz := hR.below.size
      clear hK0 hd hR h01
      simp only [putF]
      rw [hA, e1]
      go_frame
      refine wpList_append_rowsV rfl (.tmp 18) (.tmp 19) 22 rfl W1.heap.size 36 i0 _ 9 72 Try.underlying22 HI.out HZ0.out HZ1.out HZ2.out rfl (by decide) _ [] (S.map Pt.row) rfl HO.out pa n pc HLN.out.symm rfl HX.out HWD.out HL1.out HL2.out hzz ?_
      intro v6 W6 hown6 hg6 z6
      have HOW := hid (show OwnP W6 W1.heap.size v6 S from hown6)
      have HGW := hid hg6
      have HZW := hid z6
      clear hown6 hg6 z6
      go_wp2_with fail
      exact hK.out _ _ _ (by rw [hA]; simp only [putF]; rw [e1]; kernel_rfl) (HR.out.new2 hL HH.out.1 HH.out.2 HGW.out HOW.out HZW.out)
    · intro K L us W hK0 hL hd hR
      have hK := hid hK0
      have HR := hid hR
      have HEW := hid (show W.heap[g]? = some (.cells #[.int .i64 p0, .int .i64 p1, .int .i64 p2, .int .i64 p3, .int .i64 p4, .int .i64 p5, .int .i64 p6, .int .i64 p7, .int .i64 p8] 36) from heap_still hR.below HE1.out)
      clear hK0 hd hR
      have b0 : W.cell? ⟨g, 0, none⟩ = some (.int .i64 p0) := (cell_row (j := 0) HEW.out).trans rfl
      have b1 : W.cell? ⟨g, 1, none⟩ = some (.int .i64 p1) := (cell_row (j := 1) HEW.out).trans rfl
      have b2 : W.cell? ⟨g, 2, none⟩ = some (.int .i64 p2) := (cell_row (j := 2) HEW.out).trans rfl
      have b3 : W.cell? ⟨g, 3, none⟩ = some (.int .i64 p3) := (cell_row (j := 3) HEW.out).trans rfl
      have b4 : W.cell? ⟨g, 4, none⟩ = some (.int .i64 p4) := (cell_row (j := 4) HEW.out).trans rfl
      have b5 : W.cell? ⟨g, 5, none⟩ = some (.int .i64 p5) := (cell_row (j := 5) HEW.out).trans rfl
      have b6 : W.cell? ⟨g, 6, none⟩ = some (.int .i64 p6) := (cell_row (j := 6) HEW.out).trans rfl
      have b7 : W.cell? ⟨g, 7, none⟩ = some (.int .i64 p7) := (cell_row (j := 7) HEW.out).trans rfl
      have b8 : W.cell? ⟨g, 8, none⟩ = some (.int .i64 p8) := (cell_row (j := 8) HEW.out).trans rfl
      simp only [putF]
      rw [hA]
      go_frame
      go_wp2_with fail
      exact hK.out _ _ _ (by rw [hA]; simp only [putF]; kernel_rfl) (HR.out.new3 hL rfl)
    · intro K L us W hK0 hL hd hR
      have hK := hid hK0
      have HR := hid hR
      have h3 : L 3 = true := by simpa [Region.binds] using hd
      have e3 : us 3 = .agg #[.int .i64 p0, .int .i64 p1, .int .i64 p2, .int .i64 p3, .int .i64 p4, .int .i64 p5, .int .i64 p6, .int .i64 p7, .int .i64 p8] := hR.v3 h3
      have HH := hid h3
      clear hK0 hd hR h3
      simp only [putF]
      rw [hA, e3]
      go_frame
      go_wp2_with fail
      exact hK.out _ _ _ (by rw [hA]; simp only [putF]; rw [e3]; kernel_rfl) (HR.out.new4 hL HH.out)
    · intro K L us W hK0 hL hd hR
      have hK := hid hK0
      have HR := hid hR
      have h24 : L 2 = true ∧ L 4 = true := by
        have := hd
        simp [Region.binds] at this
        exact ⟨this.1, this.2.1⟩
      obtain ⟨g4, e4, hg4, hh4, _, _⟩ := hR.v4 h24.2 hL
      have HO := hid (hR.v2 h24.1 hL)
      have HRK := hid (show RowsAt W g4 0 9 [[.int .i64 p0, .int .i64 p1, .int .i64 p2, .int .i64 p3, .int .i64 p4, .int .i64 p5, .int .i64 p6, .int .i64 p7, .int .i64 p8]] from RowsAt.one hh4)
      have HL1 := hid (show (S.map Pt.row).length + 1 ≤ maxLen by rw [HLN.out]; have := HNS.out; unfold maxLen; omega)
      have HL2 := hid (show ((S.map Pt.row).length + 1) * 72 ≤ 140737488355328 by rw [HLN.out]; have := HNS.out; omega)
      have HH := hid h24
      have hzz := hR.below.size
      clear hK0 hd hR h24 hh4
      simp only [putF]
      rw [hA, e4]
      go_frame
      refine wpList_append_rows rfl (.tmp 20) (.tmp 22) 22 rfl W1.heap.size 36 i0 _ 9 72 Try.underlying22 HI.out HZ0.out HZ1.out HZ2.out rfl (by decide) _ (S.map Pt.row) [[.int .i64 p0, .int .i64 p1, .int .i64 p2, .int .i64 p3, .int .i64 p4, .int .i64 p5, .int .i64 p6, .int .i64 p7, .int .i64 p8]] rfl HO.out g4 0 1 1 rfl rfl HRK.out (wide9p _ _ _ _ _ _ _ _ _) HL1.out HL2.out hzz ?_
      intro v6 W6 hown6 hg6 z6
      have HOW := hid (show OwnP W6 W1.heap.size v6 (S ++ [⟨p0, p1, p2, p3, p4, p5, p6, p7, p8⟩]) by unfold OwnP; rw [List.map_append]; exact hown6)
      have HGW := hid hg6
      clear hown6 hg6 z6
      go_wp2_with fail
      exact hK.out _ _ _ (by rw [hA]; simp only [putF]; rw [e4]; kernel_rfl) (HR.out.new5 hL HH.out.1 HH.out.2 HGW.out HOW.out)
    · intro K L us W hK0 hL hd hR
      have hK := hid hK0
      have HR := hid hR
      have h5 : L 5 = true := by
        have := hd
        simp [Region.binds] at this
        exact this.1
      have HH := hid h5
      clear hK0 hd hR h5
      simp only [putF]
      rw [hA]
      go_frame
      go_wp2_with fail
      exact hK.out _ _ _ (by rw [hA]; simp only [putF]; kernel_rfl) (HR.out.new6 HH.out rfl)
  case hend1 =>
    intro L us W2 hL hR
    have HE2 := hid (show W2.heap[g]? = some (.cells #[.int .i64 p0, .int .i64 p1, .int .i64 p2, .int .i64 p3, .int .i64 p4, .int .i64 p5, .int .i64 p6, .int .i64 p7, .int .i64 p8] 36) from heap_still hR.below HE1.out)
    have HB2 := hid (HB1.out.trans (hR.below.mono HB1.out.size))
    have e0 : us 6 = us 5 := hR.v6 (hL 6 (by decide))
    have HAL := hid (show OwnP W2 W1.heap.size (us 5) (S ++ [⟨p0, p1, p2, p3, p4, p5, p6, p7, p8⟩]) from hR.v5 (hL 5 (by decide)))
    simp only [putF]
    rw [hA, e0]
    clear e0 hL hR hA
    go_frame
    generalize us 5 = av at HAL ⊢
    generalize us 0 = u0
    generalize us 1 = u1
    generalize us 2 = u2
    generalize us 3 = u3
    generalize us 4 = u4
    have HAV := hid (OwnP.ptsV HAL.out)
    clear HAL
    by_cases h50 : 50 < n
    · have d1 : decide ((50 : Int) < (n : Int)) = true := decide_eq_true (by omega)
      go_wp2_with fail
      refine (awake_any _).mono ?_
      rintro r w9 ⟨rfl, hb⟩
      have HB9 := hid (show Below w.heap.size w w9 from HB2.out.trans (hb.mono HB2.out.size))
      clear hb
      go_wp2_with fail
      go_ret
      exact ⟨rfl, HB9.out⟩
    have d1 : decide ((50 : Int) < (n : Int)) = false := decide_eq_false (by omega)
    go_wp2_with fail
    refine (rvalid_list av _ W2 HAV.out).mono ?_
    rintro r w3 ⟨rfl, hb3⟩
    have HB3 := hid (HB2.out.trans (hb3.mono HB2.out.size))
    have HE3 := hid (heap_still hb3 HE2.out)
    have HAV3 := hid (HAV.out.still hb3)
    clear hb3
    cases hgd : goodL (S ++ [⟨p0, p1, p2, p3, p4, p5, p6, p7, p8⟩])
    · clear hgd
      go_wp2_with fail
      refine (awake_any _).mono ?_
      rintro r w9 ⟨rfl, hb⟩
      have HB9 := hid (show Below w.heap.size w w9 from HB3.out.trans (hb.mono HB3.out.size))
      clear hb
      go_wp2_with fail
      go_ret
      exact ⟨rfl, HB9.out⟩
    obtain ⟨hg1, hg2, hg3, hg4, hg5⟩ := add_one hgd
    have HGD := hid hgd
    have HGS := hid hg1
    have HGP := hid hg2
    have HM1 := hid hg3
    have HM2 := hid hg4
    have HKP := hid hg5
    clear hgd hg1 hg2 hg3 hg4 hg5
    by_cases hc1 : c < 1
    · have d3 : decide (c < 1) = true := decide_eq_true hc1
      go_wp2_with fail
      refine (awake_any _).mono ?_
      rintro r w9 ⟨rfl, hb⟩
      have HB9 := hid (show Below w.heap.size w w9 from HB3.out.trans (hb.mono HB3.out.size))
      clear hb
      go_wp2_with fail
      go_ret
      exact ⟨rfl, HB9.out⟩
    have d3 : decide (c < 1) = false := decide_eq_false hc1
    by_cases hc2 : 64 < c
    · have d4 : decide (64 < c) = true := decide_eq_true hc2
      go_wp2_with fail
      refine (awake_any _).mono ?_
      rintro r w9 ⟨rfl, hb⟩
      have HB9 := hid (show Below w.heap.size w w9 from HB3.out.trans (hb.mono HB3.out.size))
      clear hb
      go_wp2_with fail
      go_ret
      exact ⟨rfl, HB9.out⟩
    have d4 : decide (64 < c) = false := decide_eq_false hc2
    obtain ⟨c', rfl⟩ : ∃ c' : Nat, c = (c' : Int) := ⟨c.toNat, by omega⟩
    have HC := hid (show 1 ≤ c' ∧ c' ≤ 64 by omega)
    have HPI := hid (show (Lit.int .i64 p0).wf = true by
      have := ((goodL_facts HGP.out).2.1 _ (List.mem_singleton.2 rfl)).1
      simp only at this
      exact WalkArith.wf_i64 (by omega))
    have HLS := hid (show S.length ≤ 1024 from (goodL_facts HGS.out).2.2)
    have b0 : w3.cell? ⟨g, 0, none⟩ = some (.int .i64 p0) := (cell_row (j := 0) HE3.out).trans rfl
    have b1 : w3.cell? ⟨g, 1, none⟩ = some (.int .i64 p1) := (cell_row (j := 1) HE3.out).trans rfl
    have b2 : w3.cell? ⟨g, 2, none⟩ = some (.int .i64 p2) := (cell_row (j := 2) HE3.out).trans rfl
    have b3 : w3.cell? ⟨g, 3, none⟩ = some (.int .i64 p3) := (cell_row (j := 3) HE3.out).trans rfl
    have b4 : w3.cell? ⟨g, 4, none⟩ = some (.int .i64 p4) := (cell_row (j := 4) HE3.out).trans rfl
    have b5 : w3.cell? ⟨g, 5, none⟩ = some (.int .i64 p5) := (cell_row (j := 5) HE3.out).trans rfl
    have b6 : w3.cell? ⟨g, 6, none⟩ = some (.int .i64 p6) := (cell_row (j := 6) HE3.out).trans rfl
    have b7 : w3.cell? ⟨g, 7, none⟩ = some (.int .i64 p7) := (cell_row (j := 7) HE3.out).trans rfl
    have b8 : w3.cell? ⟨g, 8, none⟩ = some (.int .i64 p8) := (cell_row (j := 8) HE3.out).trans rfl
    go_wp2_with fail
    have HA3 := hid ((Below.refl w3.heap.size w3).alloc (Nat.le_refl _) (.cells #[.int .i64 p0, .int .i64 p1, .int .i64 p2, .int .i64 p3, .int .i64 p4, .int .i64 p5, .int .i64 p6, .int .i64 p7, .int .i64 p8] 36))
    have HP3 := hid (HP.out.still (HB3.out.trans (HA3.out.mono HB3.out.size)))
    refine (xupdate_any _ _ _ S [⟨p0, p1, p2, p3, p4, p5, p6, p7, p8⟩] [] (c' : Int) _ HP3.out ⟨some ⟨w3.heap.size, 0, none⟩, 1, rfl, Or.inr ⟨_, 0, rfl, by simp, RowsAt.one (heap_alloc_at w3 _ _ rfl)⟩⟩ ⟨none, 0, rfl, Or.inl rfl⟩ (by have := HLS.out; unfold maxLen; omega) (by simp [maxLen]) (by simp) (fun z hz => by simp at hz)).mono ?_
    rintro r w4 ⟨⟨tv, kv, e, E, K, rfl, ht, hk, hkl, hu, _⟩, hb4⟩
    have HB4 := hid (HB3.out.trans ((HA3.out.trans (hb4.mono HA3.out.size)).mono HB3.out.size))
    have HB34 := hid (HA3.out.trans (hb4.mono HA3.out.size))
    have HE4 := hid (heap_still HB34.out HE3.out)
    have HAV4 := hid (HAV3.out.still HB34.out)
    obtain rfl : e = 0 := hu.err.trans ((updErr_go HGS.out HGP.out (by have := HC.out; omega)).trans HM1.out)
    have HT := hid ht
    have HK := hid hk
    have HKL := hid hkl
    have HU := hid hu
    clear ht hk hkl hu hb4 b0 b1 b2 b3 b4 b5 b6 b7 b8
    have b0 : w4.cell? ⟨g, 0, none⟩ = some (.int .i64 p0) := (cell_row (j := 0) HE4.out).trans rfl
    have b1 : w4.cell? ⟨g, 1, none⟩ = some (.int .i64 p1) := (cell_row (j := 1) HE4.out).trans rfl
    have b2 : w4.cell? ⟨g, 2, none⟩ = some (.int .i64 p2) := (cell_row (j := 2) HE4.out).trans rfl
    have b3 : w4.cell? ⟨g, 3, none⟩ = some (.int .i64 p3) := (cell_row (j := 3) HE4.out).trans rfl
    have b4 : w4.cell? ⟨g, 4, none⟩ = some (.int .i64 p4) := (cell_row (j := 4) HE4.out).trans rfl
    have b5 : w4.cell? ⟨g, 5, none⟩ = some (.int .i64 p5) := (cell_row (j := 5) HE4.out).trans rfl
    have b6 : w4.cell? ⟨g, 6, none⟩ = some (.int .i64 p6) := (cell_row (j := 6) HE4.out).trans rfl
    have b7 : w4.cell? ⟨g, 7, none⟩ = some (.int .i64 p7) := (cell_row (j := 7) HE4.out).trans rfl
    have b8 : w4.cell? ⟨g, 8, none⟩ = some (.int .i64 p8) := (cell_row (j := 8) HE4.out).trans rfl
    go_wp2_with fail
    have HA4 := hid ((Below.refl w4.heap.size w4).alloc (Nat.le_refl _) (.cells #[.int .i64 p0] 3))
    refine (xupdate_any _ _ _ (S ++ [⟨p0, p1, p2, p3, p4, p5, p6, p7, p8⟩]) [] [p0] (c' : Int) _ (HAV4.out.still HA4.out) ⟨none, 0, rfl, Or.inl rfl⟩ ⟨some ⟨w4.heap.size, 0, none⟩, 1, rfl, Or.inr ⟨_, 0, rfl, by simp, fun i z hi => ?_⟩⟩ (by rw [List.length_append]; have := HLS.out; unfold maxLen; show S.length + 1 ≤ _; omega) (by simp) (by simp [maxLen]) (fun z hz => by obtain rfl := List.mem_singleton.1 hz; exact HPI.out)).mono ?_
    · match i, hi with
      | 0, hi =>
        obtain rfl : p0 = z := by simpa using hi
        exact (cell_row (j := 0) (heap_alloc_at w4 _ _ rfl)).trans rfl
      | i + 1, hi => simp at hi
    rintro r w5 ⟨⟨tv', kv', e, E', K', rfl, ht, hk, hkl, hu, _⟩, hb5⟩
    have HB45 := hid (HA4.out.trans (hb5.mono HA4.out.size))
    have HB5 := hid (HB4.out.trans (HB45.out.mono HB4.out.size))
    have HAV5 := hid (HAV4.out.still HB45.out)
    obtain rfl : e = 0 := hu.err.trans ((updErr_go HGD.out (by rfl) (by have := HC.out; omega)).trans HM2.out)
    have HT5 := hid (TilesV.still HT.out HB45.out)
    have HK5 := hid (HK.out.still HB45.out)
    have HTP5 := hid ht
    have HKP5 := hid hk
    have HU2 := hid hu
    clear ht hk hkl hu hb5 b0 b1 b2 b3 b4 b5 b6 b7 b8 HT HK
    go_wp2_with fail
    refine (layout_good av (S ++ [⟨p0, p1, p2, p3, p4, p5, p6, p7, p8⟩]) c' w5 HAV5.out HGD.out HC.out).mono ?_
    rintro r w6 ⟨⟨xv, X, rfl, hx, hxl, _, _⟩, hb6⟩
    have HB6 := hid (HB5.out.trans (hb6.mono HB5.out.size))
    have HT6 := hid (TilesV.still HT5.out hb6)
    have HK6 := hid (HK5.out.still hb6)
    have HTP6 := hid (TilesV.still HTP5.out hb6)
    have HKP6 := hid (HKP5.out.still hb6)
    have HX6 := hid hx
    have HXL := hid hxl
    clear hx hxl hb6 HT5 HK5 HTP5 HKP5
    go_wp2_with fail
    refine (layout_good (.slice pa n pc) S c' w6 (HP.out.still HB6.out) HGS.out HC.out).mono ?_
    rintro r w7 ⟨⟨yv, Y, rfl, hy, hyl, _, _⟩, hb7⟩
    have HB7 := hid (HB6.out.trans (hb7.mono HB6.out.size))
    have HT7 := hid (TilesV.still HT6.out hb7)
    have HK7 := hid (HK6.out.still hb7)
    have HTP7 := hid (TilesV.still HTP6.out hb7)
    have HKP7 := hid (HKP6.out.still hb7)
    have HX7 := hid (TilesV.still HX6.out hb7)
    have HY7 := hid hy
    have HYL := hid hyl
    clear hy hyl hb7 HT6 HK6 HTP6 HKP6 HX6
    have HEQ := hid (show E.map Te.tl = X.map Te.tl ∧ E'.map Te.tl = Y.map Te.tl ∧ K = K' ∧ K ≠ [] ∧ Linked K by
      obtain ⟨F, f1, f2, f3⟩ := HU.out.some rfl
      obtain ⟨G, g1, g2, g3⟩ := HU2.out.some rfl
      rw [Int.toNat_natCast] at f1 f2 g1 g2
      rw [keepL_nil] at f1
      have hkp : keepL (S ++ [⟨p0, p1, p2, p3, p4, p5, p6, p7, p8⟩]) [p0] = S := HKP.out
      rw [hkp, List.nil_append] at g1
      have q1 := (f1.perm (List.perm_append_comm (l₁ := [(⟨p0, p1, p2, p3, p4, p5, p6, p7, p8⟩ : Pt)]) (l₂ := S))).unique HXL.out
      have q2 := g1.unique HYL.out
      have q3 := f2.unique HYL.out
      have q4 := g2.unique HXL.out
      rw [q1, q3] at f3
      rw [q2, q4] at g3
      have q5 := f3.unique g3.symm
      have q6 := one_more HGD.out HC.out.1 List.perm_append_comm HYL.out HXL.out f3
      exact ⟨q1, q2, q5, q6.1, q6.2⟩)
    obtain rfl : K = K' := HEQ.out.2.2.1
    go_wp2_with fail
    refine (same_tiles tv xv E X w7 HT7.out HX7.out HEQ.out.1 (by have := HU.out.len; omega) (fun t ht => by have := HU.out.pts t ht; omega)).mono ?_
    rintro r w8 ⟨rfl, hb8⟩
    have HB8 := hid (HB7.out.trans (hb8.mono HB7.out.size))
    have HTP8 := hid (TilesV.still HTP7.out hb8)
    have HY8 := hid (TilesV.still HY7.out hb8)
    have HK8 := hid (HK7.out.still hb8)
    have HKP8 := hid (HKP7.out.still hb8)
    clear hb8 HT7 HX7 HTP7 HY7 HK7 HKP7
    go_wp2_with fail
    refine (same_tiles tv' yv E' Y w8 HTP8.out HY8.out HEQ.out.2.1 (by have := HU2.out.len; omega) (fun t ht => by have := HU2.out.pts t ht; omega)).mono ?_
    rintro r w10 ⟨rfl, hb10⟩
    have HB10 := hid (HB8.out.trans (hb10.mono HB8.out.size))
    have HK10 := hid (HK8.out.still hb10)
    have HKP10 := hid (HKP8.out.still hb10)
    clear hb10 HTP8 HY8 HK8 HKP8
    go_wp2_with fail
    refine (samekeys_any kv kv' K K w10 HK10.out HKP10.out HKL.out).mono ?_
    rintro r w11 ⟨rfl, hb11⟩
    rw [decide_eq_true (rfl : K = K)]
    have HB11 := hid (HB10.out.trans (hb11.mono HB10.out.size))
    have HK11 := hid (HK10.out.still hb11)
    clear hb11
    go_wp2_with fail
    refine (chain_any kv K w11 HK11.out HKL.out HEQ.out.2.2.2.1 HEQ.out.2.2.2.2).mono ?_
    rintro r w12 ⟨rfl, hb12⟩
    have HB12 := hid (HB11.out.trans (hb12.mono HB11.out.size))
    clear hb12
    go_wp2_with fail
    refine (awake_any _).mono ?_
    rintro r w9 ⟨rfl, hb⟩
    have HB9 := hid (show Below w.heap.size w w9 from HB12.out.trans (hb.mono HB12.out.size))
    clear hb
    go_wp2_with fail
    go_ret
    exact ⟨rfl, HB9.out⟩
end Go.Proofs.Yteanlcefdoigcaa
