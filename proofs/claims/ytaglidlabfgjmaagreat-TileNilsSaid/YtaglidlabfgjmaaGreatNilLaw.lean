/- TileNils: what nil and zero disks and archives return. Every input, no condition. (Printed by wip/gen_nils.py.) -/
import Derived.Test.YtaglidlabfgjmaaGreatNilA
import Derived.SizedLaws
namespace Go.Proofs.YtaglidlabfgjmaaGreat
open Go.ChangeShapes Go.WideShapes Go.ChangeAt Go.RowKit Go.Maps Go.Sort

def isP (j : Nat) : Bool := decide (j < 8) || j == 10 || j == 11
/-- the first region, done in whatever order: plain values, two blocks made and filled -/
structure NilR (W0 : World) (V : Nat → Value) (KZ KC EZ EC : Array Value) (L : Nat → Bool) (us : Nat → Value) (W : World) : Prop where
  grow : Below W0.heap.size W0 W
  vals : ∀ j, isP j = true → L j = true → us j = V j
  a : L 8 = true → ∃ g, us 8 = .pointer (some ⟨g, 0, none⟩) ∧ W0.heap.size ≤ g ∧ W.heap[g]? = some (.cells (if L 12 then KC else KZ) 23)
  b : L 9 = true → ∃ g, us 9 = .pointer (some ⟨g, 0, none⟩) ∧ W0.heap.size ≤ g ∧ W.heap[g]? = some (.cells (if L 13 then EC else EZ) 27)
  ab : L 8 = true → L 9 = true → us 8 ≠ us 9
  d12 : L 12 = true → L 8 = true
  d13 : L 13 = true → L 9 = true
section
variable {W0 W W' : World} {V : Nat → Value} {KZ KC EZ EC : Array Value} {L : Nat → Bool} {us : Nat → Value}
theorem NilR.pure {k : Nat} {v : Value} (h : NilR W0 V KZ KC EZ EC L us W) (hp : isP k = true) (hB : Below W.heap.size W W') (hv : v = V k) : NilR W0 V KZ KC EZ EC (fun j => j == k || L j) (updF us k v) W' := by
  have n8 : (8 : Nat) ≠ k := fun e => by subst e; exact absurd hp (by decide)
  have n9 : (9 : Nat) ≠ k := fun e => by subst e; exact absurd hp (by decide)
  have n12 : (12 : Nat) ≠ k := fun e => by subst e; exact absurd hp (by decide)
  have n13 : (13 : Nat) ≠ k := fun e => by subst e; exact absurd hp (by decide)
  refine ⟨h.grow.trans (hB.mono h.grow.size), ?_, ?_, ?_, ?_, ?_, ?_⟩
  · intro j hj hl
    by_cases e : j = k
    · subst e; rw [updF, if_pos rfl]; exact hv
    · rw [(box_other (L := L) (us := us) (v := v) e).2]; exact h.vals j hj (by simpa [e] using hl)
  · intro hl
    have hl' : L 8 = true := by simpa [n8] using hl
    obtain ⟨g, g1, g2, g3⟩ := h.a hl'
    refine ⟨g, by rw [(box_other (L := L) (us := us) (v := v) n8).2]; exact g1, g2, ?_⟩
    show W'.heap[g]? = some (.cells (if ((12 : Nat) == k || L 12) = true then KC else KZ) 23)
    rw [(box_other (L := L) (us := us) (v := v) n12).1]
    exact heap_still hB g3
  · intro hl
    have hl' : L 9 = true := by simpa [n9] using hl
    obtain ⟨g, g1, g2, g3⟩ := h.b hl'
    refine ⟨g, by rw [(box_other (L := L) (us := us) (v := v) n9).2]; exact g1, g2, ?_⟩
    show W'.heap[g]? = some (.cells (if ((13 : Nat) == k || L 13) = true then EC else EZ) 27)
    rw [(box_other (L := L) (us := us) (v := v) n13).1]
    exact heap_still hB g3
  · intro h8 h9
    rw [(box_other (L := L) (us := us) (v := v) n8).2, (box_other (L := L) (us := us) (v := v) n9).2]
    exact h.ab (by simpa [n8] using h8) (by simpa [n9] using h9)
  · intro hl
    have := h.d12 (by simpa [n12] using hl)
    simp [this]
  · intro hl
    have := h.d13 (by simpa [n13] using hl)
    simp [this]
theorem NilR.alloc8 (h : NilR W0 V KZ KC EZ EC L us W) (hL : L 8 = false) : NilR W0 V KZ KC EZ EC (fun j => j == 8 || L j) (updF us 8 (.pointer (some ⟨W.heap.size, 0, none⟩))) (W.alloc (.cells KZ 23)) := by
  have h12 : L 12 = false := by
    cases h' : L 12
    · rfl
    · rw [h.d12 h'] at hL; exact absurd hL (by simp)
  have hB : Below W.heap.size W (W.alloc (.cells KZ 23)) := (Below.refl _ _).alloc (Nat.le_refl _) _
  refine ⟨h.grow.trans (hB.mono h.grow.size), ?_, ?_, ?_, ?_, ?_, ?_⟩
  · intro j hj hl
    have e : j ≠ 8 := fun e => by subst e; exact absurd hj (by decide)
    rw [(box_other (L := L) (us := us) (v := .pointer (some ⟨W.heap.size, 0, none⟩)) e).2]; exact h.vals j hj (by simpa [e] using hl)
  · intro _
    exact ⟨W.heap.size, by simp [updF], h.grow.size, by simpa [h12] using heap_alloc_at W (.cells KZ 23) _ rfl⟩
  · intro hl
    obtain ⟨g, g1, g2, g3⟩ := h.b (by simpa using hl)
    exact ⟨g, by simpa [updF] using g1, g2, by simpa using heap_still hB g3⟩
  · intro _ hl
    obtain ⟨g, g1, g2, g3⟩ := h.b (by simpa using hl)
    have := (Array.getElem?_eq_some_iff.1 g3).1
    simp only [updF, if_true, show ((9 : Nat) = 8) = False by simp, if_false]
    rw [g1]
    intro e
    injection e with e
    injection e with e
    injection e with e
    omega
  · intro hl; simp [h12] at hl
  · intro hl; simpa using h.d13 (by simpa using hl)
theorem NilR.alloc9 (h : NilR W0 V KZ KC EZ EC L us W) (hL : L 9 = false) : NilR W0 V KZ KC EZ EC (fun j => j == 9 || L j) (updF us 9 (.pointer (some ⟨W.heap.size, 0, none⟩))) (W.alloc (.cells EZ 27)) := by
  have h13 : L 13 = false := by
    cases h' : L 13
    · rfl
    · rw [h.d13 h'] at hL; exact absurd hL (by simp)
  have hB : Below W.heap.size W (W.alloc (.cells EZ 27)) := (Below.refl _ _).alloc (Nat.le_refl _) _
  refine ⟨h.grow.trans (hB.mono h.grow.size), ?_, ?_, ?_, ?_, ?_, ?_⟩
  · intro j hj hl
    have e : j ≠ 9 := fun e => by subst e; exact absurd hj (by decide)
    rw [(box_other (L := L) (us := us) (v := .pointer (some ⟨W.heap.size, 0, none⟩)) e).2]; exact h.vals j hj (by simpa [e] using hl)
  · intro hl
    obtain ⟨g, g1, g2, g3⟩ := h.a (by simpa using hl)
    exact ⟨g, by simpa [updF] using g1, g2, by simpa using heap_still hB g3⟩
  · intro _
    exact ⟨W.heap.size, by simp [updF], h.grow.size, by simpa [h13] using heap_alloc_at W (.cells EZ 27) _ rfl⟩
  · intro hl _
    obtain ⟨g, g1, g2, g3⟩ := h.a (by simpa using hl)
    have := (Array.getElem?_eq_some_iff.1 g3).1
    simp only [updF, if_true, show ((8 : Nat) = 9) = False by simp, if_false]
    rw [g1]
    intro e
    injection e with e
    injection e with e
    injection e with e
    omega
  · intro hl; simpa using h.d12 (by simpa using hl)
  · intro hl; simp [h13] at hl
theorem NilR.store12 {g : Nat} (h : NilR W0 V KZ KC EZ EC L us W) (hL : L 8 = true) (hg : us 8 = .pointer (some ⟨g, 0, none⟩)) : NilR W0 V KZ KC EZ EC (fun j => j == 12 || L j) (updF us 12 undef) (W.setRow g KC) := by
  obtain ⟨g', g1, g2, g3⟩ := h.a hL
  obtain rfl : g' = g := by rw [hg] at g1; injection g1 with e; injection e with e; injection e with e; exact e.symm
  refine ⟨below_setRow h.grow g2 _, ?_, ?_, ?_, ?_, ?_, ?_⟩
  · intro j hj hl
    have e : j ≠ 12 := fun e => by subst e; exact absurd hj (by decide)
    rw [(box_other (L := L) (us := us) (v := undef) e).2]; exact h.vals j hj (by simpa [e] using hl)
  · intro _
    exact ⟨g', by simpa [updF] using hg, g2, by simpa using setRow_heap _ _ _ _ _ _ g3⟩
  · intro hl
    have h9 : L 9 = true := by simpa using hl
    obtain ⟨k, k1, k2, k3⟩ := h.b h9
    refine ⟨k, by simpa [updF] using k1, k2, ?_⟩
    have hne : k ≠ g' := fun e => h.ab hL h9 (by rw [hg, k1, e])
    simpa using (setRow_other _ _ _ _ hne).trans k3
  · intro h8 h9; simpa [updF] using h.ab (by simpa using h8) (by simpa using h9)
  · intro _; simp [hL]
  · intro hl; simpa using h.d13 (by simpa using hl)
theorem NilR.store13 {g : Nat} (h : NilR W0 V KZ KC EZ EC L us W) (hL : L 9 = true) (hg : us 9 = .pointer (some ⟨g, 0, none⟩)) : NilR W0 V KZ KC EZ EC (fun j => j == 13 || L j) (updF us 13 undef) (W.setRow g EC) := by
  obtain ⟨g', g1, g2, g3⟩ := h.b hL
  obtain rfl : g' = g := by rw [hg] at g1; injection g1 with e; injection e with e; injection e with e; exact e.symm
  refine ⟨below_setRow h.grow g2 _, ?_, ?_, ?_, ?_, ?_, ?_⟩
  · intro j hj hl
    have e : j ≠ 13 := fun e => by subst e; exact absurd hj (by decide)
    rw [(box_other (L := L) (us := us) (v := undef) e).2]; exact h.vals j hj (by simpa [e] using hl)
  · intro hl
    have h8 : L 8 = true := by simpa using hl
    obtain ⟨k, k1, k2, k3⟩ := h.a h8
    refine ⟨k, by simpa [updF] using k1, k2, ?_⟩
    have hne : k ≠ g' := fun e => h.ab h8 hL (by rw [hg, k1, e])
    simpa using (setRow_other _ _ _ _ hne).trans k3
  · intro _
    exact ⟨g', by simpa [updF] using hg, g2, by simpa using setRow_heap _ _ _ _ _ _ g3⟩
  · intro h8 h9; simpa [updF] using h.ab (by simpa using h8) (by simpa using h9)
  · intro hl; simpa using h.d12 (by simpa using hl)
  · intro _; simp [hL]
end
theorem nsz23 : (Tryz.prog.info? 23).map (·.size) = some 2 := by kernel_rfl
theorem nsz27 : (Tryz.prog.info? 27).map (·.size) = some 2 := by kernel_rfl
def Vn (w : World) (ba : Option Addr) (bn bc : Nat) (n k0 k1 : Int) (aa : Option Addr) (an ac : Nat) (ra : Option Addr) (rn rc : Nat) (j : Nat) : Value :=
  match j with
  | 0 => .pointer (some ⟨w.heap.size, 0, none⟩)
  | 1 => .slice ba bn bc
  | 2 => .pointer (some ⟨w.heap.size, 1, none⟩)
  | 3 => .int .i64 n
  | 4 => .pointer (some ⟨w.heap.size, 2, none⟩)
  | 5 => .agg #[.int .i64 k0, .int .i64 k1]
  | 6 => .pointer (some ⟨w.heap.size, 4, none⟩)
  | 7 => .agg #[.slice aa an ac, .slice ra rn rc]
  | 10 => .slice ba bn bc
  | 11 => .int .i64 n
  | _ => undef
set_option maxRecDepth 100000 in
set_option maxHeartbeats 6400000 in
theorem nils_law (ba : Option Addr) (bn bc : Nat) (n k0 k1 : Int) (aa : Option Addr) (an ac : Nat) (ra : Option Addr) (rn rc : Nat) (w : World) (hbn : bn ≤ 9223372036854775807) (han : an ≤ 9223372036854775807) (hrn : rn ≤ 9223372036854775807) :
    Calls Tryz.prog 3 #[.agg #[.slice ba bn bc, .int .i64 n, .int .i64 k0, .int .i64 k1, .slice aa an ac, .slice ra rn rc]] w fun r w' => r = .returned (.bool true) ∧ Below w.heap.size w w' := by
  go_enter Tryz.func3, Tryz.ntmps3
  go_upto_region 1 with fail
  refine gen_world (fun W0 hW0 => ?_)
  have KB0 := hid (show W0.heap[w.heap.size]? = some (.cells #[.slice ba bn bc, .int .i64 n, .int .i64 k0, .int .i64 k1, .slice aa an ac, .slice ra rn rc] 29) by rw [hW0]; exact heap_alloc_at _ _ _ rfl)
  have HB0 := hid (show Below w.heap.size w W0 by rw [hW0]; exact (Below.refl _ _).alloc (Nat.le_refl _) _)
  have hz0 : w.heap.size < W0.heap.size := (Array.getElem?_eq_some_iff.1 KB0.out).1
  clear hW0
  refine gen_act (fun A0 hA => ?_)
  refine wp_region_by (by kernel_rfl) (by kernel_rfl) [some 25, some 26, some 27, some 28, some 29, some 30, some 31, some 32, some 5, some 6, some 3, some 4, none, none] rfl (by decide) (NilR W0 (Vn w ba bn bc n k0 k1 aa an ac ra rn rc) #[.int .i64 0, .int .i64 0] #[.int .i64 k0, .int .i64 k1] #[.slice none 0 0, .slice none 0 0] #[.slice aa an ac, .slice ra rn rc]) (selfF A0 _) (putF_self A0 _)
    ⟨(Below.refl _ _).drew, fun _ _ h => (Bool.false_ne_true h).elim, fun h => (Bool.false_ne_true h).elim, fun h => (Bool.false_ne_true h).elim, fun h => (Bool.false_ne_true h).elim, fun h => (Bool.false_ne_true h).elim, fun h => (Bool.false_ne_true h).elim⟩ ?hs1 ?hend
  case hs1 =>
    refine ⟨?_, ?_, ?_, ?_, ?_, ?_, ?_, ?_, ?_, ?_, ?_, ?_, ?_, ?_, trivial⟩
    · intro K L us W hK0 hL hd hR
      have hK := hid (fun v A' W' h1 h2 h3 => hK0 v A' W' h1 (hR.pure (by decide) h2 h3)); clear hK0
      simp only [putF]
      rw [hA]
      go_frame
      go_wp2_with fail
      exact hK.out _ _ _ (by rw [hA]; simp only [putF]; kernel_rfl) (Below.refl _ _) rfl
    · intro K L us W hK0 hL hd hR
      have hK := hid (fun v A' W' h1 h2 h3 => hK0 v A' W' h1 (hR.pure (by decide) h2 h3)); clear hK0
      (try simp [Region.binds] at hd)
      have e0 : us 0 = .pointer (some ⟨w.heap.size, 0, none⟩) := hR.vals 0 (by decide) hd
      have c0 : W.cell? ⟨w.heap.size, 0, none⟩ = some (.slice ba bn bc) := (cell_row (j := 0) (heap_below hR.grow hz0 KB0.out)).trans rfl
      simp only [putF]
      rw [hA, e0]
      go_frame
      go_wp2_with fail
      exact hK.out _ _ _ (by rw [hA]; simp only [putF]; rw [e0]; kernel_rfl) (Below.refl _ _) rfl
    · intro K L us W hK0 hL hd hR
      have hK := hid (fun v A' W' h1 h2 h3 => hK0 v A' W' h1 (hR.pure (by decide) h2 h3)); clear hK0
      simp only [putF]
      rw [hA]
      go_frame
      go_wp2_with fail
      exact hK.out _ _ _ (by rw [hA]; simp only [putF]; kernel_rfl) (Below.refl _ _) rfl
    · intro K L us W hK0 hL hd hR
      have hK := hid (fun v A' W' h1 h2 h3 => hK0 v A' W' h1 (hR.pure (by decide) h2 h3)); clear hK0
      (try simp [Region.binds] at hd)
      have e0 : us 2 = .pointer (some ⟨w.heap.size, 1, none⟩) := hR.vals 2 (by decide) hd
      have c1 : W.cell? ⟨w.heap.size, 1, none⟩ = some (.int .i64 n) := (cell_row (j := 1) (heap_below hR.grow hz0 KB0.out)).trans rfl
      simp only [putF]
      rw [hA, e0]
      go_frame
      go_wp2_with fail
      exact hK.out _ _ _ (by rw [hA]; simp only [putF]; rw [e0]; kernel_rfl) (Below.refl _ _) rfl
    · intro K L us W hK0 hL hd hR
      have hK := hid (fun v A' W' h1 h2 h3 => hK0 v A' W' h1 (hR.pure (by decide) h2 h3)); clear hK0
      simp only [putF]
      rw [hA]
      go_frame
      go_wp2_with fail
      exact hK.out _ _ _ (by rw [hA]; simp only [putF]; kernel_rfl) (Below.refl _ _) rfl
    · intro K L us W hK0 hL hd hR
      have hK := hid (fun v A' W' h1 h2 h3 => hK0 v A' W' h1 (hR.pure (by decide) h2 h3)); clear hK0
      (try simp [Region.binds] at hd)
      have e0 : us 4 = .pointer (some ⟨w.heap.size, 2, none⟩) := hR.vals 4 (by decide) hd
      have c2 : W.cell? ⟨w.heap.size, 2, none⟩ = some (.int .i64 k0) := (cell_row (j := 2) (heap_below hR.grow hz0 KB0.out)).trans rfl
      have c3 : W.cell? ⟨w.heap.size, 3, none⟩ = some (.int .i64 k1) := (cell_row (j := 3) (heap_below hR.grow hz0 KB0.out)).trans rfl
      simp only [putF]
      rw [hA, e0]
      go_frame
      go_wp2_with fail
      exact hK.out _ _ _ (by rw [hA]; simp only [putF]; rw [e0]; kernel_rfl) (Below.refl _ _) rfl
    · intro K L us W hK0 hL hd hR
      have hK := hid (fun v A' W' h1 h2 h3 => hK0 v A' W' h1 (hR.pure (by decide) h2 h3)); clear hK0
      simp only [putF]
      rw [hA]
      go_frame
      go_wp2_with fail
      exact hK.out _ _ _ (by rw [hA]; simp only [putF]; kernel_rfl) (Below.refl _ _) rfl
    · intro K L us W hK0 hL hd hR
      have hK := hid (fun v A' W' h1 h2 h3 => hK0 v A' W' h1 (hR.pure (by decide) h2 h3)); clear hK0
      (try simp [Region.binds] at hd)
      have e0 : us 6 = .pointer (some ⟨w.heap.size, 4, none⟩) := hR.vals 6 (by decide) hd
      have c4 : W.cell? ⟨w.heap.size, 4, none⟩ = some (.slice aa an ac) := (cell_row (j := 4) (heap_below hR.grow hz0 KB0.out)).trans rfl
      have c5 : W.cell? ⟨w.heap.size, 5, none⟩ = some (.slice ra rn rc) := (cell_row (j := 5) (heap_below hR.grow hz0 KB0.out)).trans rfl
      simp only [putF]
      rw [hA, e0]
      go_frame
      go_wp2_with fail
      exact hK.out _ _ _ (by rw [hA]; simp only [putF]; rw [e0]; kernel_rfl) (Below.refl _ _) rfl
    · intro K L us W hK0 hL hd hR
      have hK := hid (fun A' h1 => hK0 (.pointer (some ⟨W.heap.size, 0, none⟩)) A' _ h1 (hR.alloc8 hL)); clear hK0
      simp only [putF]
      rw [hA]
      go_frame
      go_wp2_with fail
      exact hK.out _ (by rw [hA]; simp only [putF]; kernel_rfl)
    · intro K L us W hK0 hL hd hR
      have hK := hid (fun A' h1 => hK0 (.pointer (some ⟨W.heap.size, 0, none⟩)) A' _ h1 (hR.alloc9 hL)); clear hK0
      simp only [putF]
      rw [hA]
      go_frame
      go_wp2_with fail
      exact hK.out _ (by rw [hA]; simp only [putF]; kernel_rfl)
    · intro K L us W hK0 hL hd hR
      have hK := hid (fun v A' W' h1 h2 h3 => hK0 v A' W' h1 (hR.pure (by decide) h2 h3)); clear hK0
      (try simp [Region.binds] at hd)
      have e0 : us 1 = .slice ba bn bc := hR.vals 1 (by decide) hd.1
      simp only [putF]
      rw [hA, e0]
      go_frame
      go_wp2_with fail
      exact hK.out _ _ _ (by rw [hA]; simp only [putF]; rw [e0]; kernel_rfl) (Below.refl _ _) rfl
    · intro K L us W hK0 hL hd hR
      have hK := hid (fun v A' W' h1 h2 h3 => hK0 v A' W' h1 (hR.pure (by decide) h2 h3)); clear hK0
      (try simp [Region.binds] at hd)
      have e0 : us 3 = .int .i64 n := hR.vals 3 (by decide) hd.1
      simp only [putF]
      rw [hA, e0]
      go_frame
      go_wp2_with fail
      exact hK.out _ _ _ (by rw [hA]; simp only [putF]; rw [e0]; kernel_rfl) (Below.refl _ _) rfl
    · intro K L us W hK0 hL hd hR
      (try simp [Region.binds] at hd)
      have hl8 : L 8 = true := hd.1
      have e1 : us 5 = .agg #[.int .i64 k0, .int .i64 k1] := hR.vals 5 (by decide) hd.2.1
      obtain ⟨g, e0, g2, g3⟩ := hR.a hl8
      have hK := hid (fun A' h1 => hK0 undef A' _ h1 (hR.store12 hl8 e0)); clear hK0
      have hl12 : L 12 = false := hL
      rw [hl12] at g3
      have G3 := hid g3
      simp only [putF]
      rw [hA, e0, e1]
      go_frame
      go_wp2_with (refine wpList_store_at rfl 23 (.tmp 5) (.tmp 30) rfl rfl rfl (G3.out) nsz23 rfl rfl rfl ?_)
      exact hK.out _ (by rw [hA]; simp only [putF]; rw [e0, e1]; kernel_rfl)
    · intro K L us W hK0 hL hd hR
      (try simp [Region.binds] at hd)
      have hl8 : L 9 = true := hd.1
      have e1 : us 7 = .agg #[.slice aa an ac, .slice ra rn rc] := hR.vals 7 (by decide) hd.2.1
      obtain ⟨g, e0, g2, g3⟩ := hR.b hl8
      have hK := hid (fun A' h1 => hK0 undef A' _ h1 (hR.store13 hl8 e0)); clear hK0
      have hl12 : L 13 = false := hL
      rw [hl12] at g3
      have G3 := hid g3
      simp only [putF]
      rw [hA, e0, e1]
      go_frame
      go_wp2_with (refine wpList_store_at rfl 27 (.tmp 6) (.tmp 32) rfl rfl rfl (G3.out) nsz27 rfl rfl rfl ?_)
      exact hK.out _ (by rw [hA]; simp only [putF]; rw [e0, e1]; kernel_rfl)
  case hend =>
    intro L us W hall hR
    obtain ⟨g8, e8, hg8, k8⟩ := hR.a (hall 8 (by decide))
    obtain ⟨g9, e9, hg9, k9⟩ := hR.b (hall 9 (by decide))
    rw [hall 12 (by decide)] at k8
    rw [hall 13 (by decide)] at k9
    have e0 : us 0 = .pointer (some ⟨w.heap.size, 0, none⟩) := hR.vals 0 (by decide) (hall 0 (by decide))
    have e1 : us 1 = .slice ba bn bc := hR.vals 1 (by decide) (hall 1 (by decide))
    have e2 : us 2 = .pointer (some ⟨w.heap.size, 1, none⟩) := hR.vals 2 (by decide) (hall 2 (by decide))
    have e3 : us 3 = .int .i64 n := hR.vals 3 (by decide) (hall 3 (by decide))
    have e4 : us 4 = .pointer (some ⟨w.heap.size, 2, none⟩) := hR.vals 4 (by decide) (hall 4 (by decide))
    have e5 : us 5 = .agg #[.int .i64 k0, .int .i64 k1] := hR.vals 5 (by decide) (hall 5 (by decide))
    have e6 : us 6 = .pointer (some ⟨w.heap.size, 4, none⟩) := hR.vals 6 (by decide) (hall 6 (by decide))
    have e7 : us 7 = .agg #[.slice aa an ac, .slice ra rn rc] := hR.vals 7 (by decide) (hall 7 (by decide))
    have e10 : us 10 = .slice ba bn bc := hR.vals 10 (by decide) (hall 10 (by decide))
    have e11 : us 11 = .int .i64 n := hR.vals 11 (by decide) (hall 11 (by decide))
    have K8 := hid k8
    have K9 := hid k9
    have HB1 := hid (show Below w.heap.size w W from HB0.out.trans (hR.grow.mono (Nat.le_of_lt hz0)))
    have hz1 := HB1.out.size
    clear hR k8 k9 hall
    simp only [putF]
    rw [hA, e0, e1, e2, e3, e4, e5, e6, e7, e8, e9, e10, e11]
    go_frame
    clear e0 e1 e2 e3 e4 e5 e6 e7 e8 e9 e10 e11 hA
    have q0 : W.cell? ⟨g9, 0, none⟩ = some (.slice aa an ac) := (cell_row (j := 0) K9.out).trans rfl
    have q1 : W.cell? ⟨g9, 1, none⟩ = some (.slice ra rn rc) := (cell_row (j := 1) K9.out).trans rfl
    by_cases h64 : 64 < bn
    · have d1 : decide ((64 : Int) < (bn : Int)) = true := decide_eq_true (by omega)
      go_wp2_with fail
      refine (awake_any _).mono ?_
      rintro r w9 ⟨rfl, hb⟩
      go_wp2_with fail
      go_ret
      exact ⟨rfl, HB1.out.trans (hb.mono hz1)⟩
    have d1 : decide ((64 : Int) < (bn : Int)) = false := decide_eq_false (by omega)
    by_cases h8 : 8 < an
    · have d2 : decide ((8 : Int) < (an : Int)) = true := decide_eq_true (by omega)
      go_wp2_with fail
      refine (awake_any _).mono ?_
      rintro r w9 ⟨rfl, hb⟩
      go_wp2_with fail
      go_ret
      exact ⟨rfl, HB1.out.trans (hb.mono hz1)⟩
    have d2 : decide ((8 : Int) < (an : Int)) = false := decide_eq_false (by omega)
    by_cases h9 : 8 < rn
    · have d3 : decide ((8 : Int) < (rn : Int)) = true := decide_eq_true (by omega)
      go_wp2_with fail
      refine (awake_any _).mono ?_
      rintro r w9 ⟨rfl, hb⟩
      go_wp2_with fail
      go_ret
      exact ⟨rfl, HB1.out.trans (hb.mono hz1)⟩
    have d3 : decide ((8 : Int) < (rn : Int)) = false := decide_eq_false (by omega)
    go_wp2_with fail
    refine gen_world (fun W2 hW2 => ?_)
    have KA := hid (show W2.heap[W.heap.size + 1]? = some (.cells #[.pointer none, .pointer (some ⟨W.heap.size, 0, none⟩)] 31) by rw [hW2]; exact heap_alloc_at _ _ _ (by simp))
    have KZ := hid (show W2.heap[W.heap.size]? = some (.cells #[.bool false, .bool false, .int .i64 0, .slice none 0 0, .int .i64 0, .slice none 0 0, .int .i64 0] 38) by rw [hW2]; exact heap_alloc_past _ _ _ _ (heap_alloc_at _ _ _ rfl))
    have K8 := hid (show W2.heap[g8]? = some (.cells #[.int .i64 k0, .int .i64 k1] 23) by rw [hW2]; exact heap_alloc_past _ _ _ _ (heap_alloc_past _ _ _ _ K8.out))
    have K9 := hid (show W2.heap[g9]? = some (.cells #[.slice aa an ac, .slice ra rn rc] 27) by rw [hW2]; exact heap_alloc_past _ _ _ _ (heap_alloc_past _ _ _ _ K9.out))
    have HB2 := hid (show Below w.heap.size w W2 by rw [hW2]; exact (HB1.out.alloc hz1 _).alloc (by simp; omega) _)
    have hz2 := HB2.out.size
    clear hW2 q0 q1 HB1 KB0 HB0
    go_loopw [53] (fun iv wr => ∃ i : Nat, i ≤ 2 ∧ iv = .int .i64 (i : Int) ∧ Below W2.heap.size W2 wr) (fun iv _ => 2 - (intOf iv).toNat)
    case atStart => exact ⟨0, by omega, rfl, Below.refl _ _⟩
    case round =>
      obtain ⟨i, hi, rfl, hB⟩ := hrel
      have HB := hid hB
      clear hB
      by_cases hlt : i < 2
      · have e3 : decide ((i : Int) < 2) = true := decide_eq_true (by omega)
        obtain ⟨v, hv, hnd⟩ : ∃ v, wr.cell? ⟨W.heap.size + 1, i, none⟩ = some v ∧ NoD wr v := by
          match i, hlt with
          | 0, _ => exact ⟨_, (cell_row (j := 0) (heap_still HB.out KA.out)).trans rfl, .inl rfl⟩
          | 1, _ => exact ⟨_, (cell_row (j := 1) (heap_still HB.out KA.out)).trans rfl, .inr ⟨_, rfl, (cell_row (j := 0) (heap_still HB.out KZ.out)).trans rfl⟩⟩
        have ND := hid hnd
        have HX := hid (Below.refl wr.heap.size wr)
        clear hnd
        go_wp2_with fail
        clear hv
        refine (darm_any v n _ ND.out).mono ?_
        rintro r w1 ⟨rfl, hb⟩
        have HX := hid (HX.out.trans (hb.mono HX.out.size))
        clear hb
        have r0 : w1.cell? ⟨g8, 0, none⟩ = some (.int .i64 k0) := (cell_row (j := 0) (heap_still HX.out (heap_still HB.out K8.out))).trans rfl
        have r1 : w1.cell? ⟨g8, 1, none⟩ = some (.int .i64 k1) := (cell_row (j := 1) (heap_still HX.out (heap_still HB.out K8.out))).trans rfl
        go_wp2_with fail
        clear r0 r1
        refine (dcrash_any v k0 k1 _ (ND.out.still HX.out)).mono ?_
        rintro r w1 ⟨rfl, hb⟩
        have HX := hid (HX.out.trans (hb.mono HX.out.size))
        clear hb
        go_wp2_with fail
        refine (dstart_any v _ (ND.out.still HX.out)).mono ?_
        rintro r w1 ⟨rfl, hb⟩
        have HX := hid (HX.out.trans (hb.mono HX.out.size))
        clear hb
        go_wp2_with fail
        refine (dread_any v _ _ (ND.out.still HX.out)).mono ?_
        rintro r w1 ⟨rfl, hb⟩
        have HX := hid (HX.out.trans (hb.mono HX.out.size))
        clear hb
        go_wp2_with fail
        refine (dopen_any v _ _ (ND.out.still HX.out)).mono ?_
        rintro r w1 ⟨rfl, hb⟩
        have HX := hid (HX.out.trans (hb.mono HX.out.size))
        clear hb
        go_wp2_with fail
        refine (dappend_any v _ _ _ (ND.out.still HX.out)).mono ?_
        rintro r w1 ⟨rfl, hb⟩
        have HX := hid (HX.out.trans (hb.mono HX.out.size))
        clear hb
        go_wp2_with fail
        refine (dsync_any v _ _ (ND.out.still HX.out)).mono ?_
        rintro r w1 ⟨rfl, hb⟩
        have HX := hid (HX.out.trans (hb.mono HX.out.size))
        clear hb
        go_wp2_with fail
        refine (dclear_any v _ _ (ND.out.still HX.out)).mono ?_
        rintro r w1 ⟨rfl, hb⟩
        have HX := hid (HX.out.trans (hb.mono HX.out.size))
        clear hb
        go_wp2_with fail
        refine (ddown_any v _ (ND.out.still HX.out)).mono ?_
        rintro r w1 ⟨rfl, hb⟩
        have HX := hid (HX.out.trans (hb.mono HX.out.size))
        clear hb
        go_wp2_with fail
        refine (dfork_any v _ (ND.out.still HX.out)).mono ?_
        rintro r w1 ⟨rfl, hb⟩
        have HX := hid (HX.out.trans (hb.mono HX.out.size))
        clear hb
        go_wp2_with fail
        exact ⟨⟨i + 1, by omega, by go_num, HB.out.trans (HX.out.mono HB.out.size)⟩, by simp [intOf]; omega⟩
      · have e3 : decide ((i : Int) < 2) = false := decide_eq_false (by omega)
        go_wp2_with fail
        refine gen_world (fun W4 hW4 => ?_)
        have KA4 := hid (show W4.heap[wr.heap.size + 1]? = some (.cells #[.pointer none, .pointer (some ⟨wr.heap.size, 0, none⟩)] 45) by rw [hW4]; exact heap_alloc_at _ _ _ (by simp))
        have KZ4 := hid (show W4.heap[wr.heap.size]? = some (.cells #[.int .i64 0, .int .i64 0, .int .i64 0, .slice none 0 0, .slice none 0 0, .bool false, .bool false, .slice none 0 0, .pointer none, .int .i64 0, .int .i64 0, .bool false] 58) by rw [hW4]; exact heap_alloc_past _ _ _ _ (heap_alloc_at _ _ _ rfl))
        have K94 := hid (show W4.heap[g9]? = some (.cells #[.slice aa an ac, .slice ra rn rc] 27) by rw [hW4]; exact heap_alloc_past _ _ _ _ (heap_alloc_past _ _ _ _ (heap_still HB.out K9.out)))
        have HB4 := hid (show Below w.heap.size w W4 by rw [hW4]; exact ((HB2.out.trans (HB.out.mono hz2)).alloc (by have := HB.out.size; omega) _).alloc (by have := HB.out.size; simp; omega) _)
        have hz4 := HB4.out.size
        clear hW4 HB2 HB
        generalize wr.heap.size = zA at *
        go_loopw [121] (fun iv wr => ∃ i : Nat, i ≤ 2 ∧ iv = .int .i64 (i : Int) ∧ Below W4.heap.size W4 wr) (fun iv _ => 2 - (intOf iv).toNat)
        case atStart => exact ⟨0, by omega, rfl, Below.refl _ _⟩
        case round =>
          obtain ⟨i, hi, rfl, hB⟩ := hrel
          have HB := hid hB
          clear hB
          by_cases hlt : i < 2
          · have e5 : decide ((i : Int) < 2) = true := decide_eq_true (by omega)
            obtain ⟨v, hv, hnd⟩ : ∃ v, wr.cell? ⟨zA + 1, i, none⟩ = some v ∧ NoA wr v := by
              match i, hlt with
              | 0, _ => exact ⟨_, (cell_row (j := 0) (heap_still HB.out KA4.out)).trans rfl, .inl rfl⟩
              | 1, _ => exact ⟨_, (cell_row (j := 1) (heap_still HB.out KA4.out)).trans rfl, .inr ⟨_, rfl, (cell_row (j := 8) (heap_still HB.out KZ4.out)).trans rfl⟩⟩
            have ND := hid hnd
            have HX := hid (Below.refl wr.heap.size wr)
            have r0 : wr.cell? ⟨g9, 0, none⟩ = some (.slice aa an ac) := (cell_row (j := 0) (heap_still HB.out K94.out)).trans rfl
            have r1 : wr.cell? ⟨g9, 1, none⟩ = some (.slice ra rn rc) := (cell_row (j := 1) (heap_still HB.out K94.out)).trans rfl
            clear hnd
            go_wp2_with fail
            clear hv r0 r1
            refine (acommit_any v _ _ _ ND.out).mono ?_
            rintro r w1 ⟨rfl, hb⟩
            have HX := hid (HX.out.trans (hb.mono HX.out.size))
            clear hb
            go_wp2_with fail
            refine (apoints_any v _ _ (ND.out.still HX.out)).mono ?_
            rintro r w1 ⟨rfl, hb⟩
            have HX := hid (HX.out.trans (hb.mono HX.out.size))
            clear hb
            go_wp2_with fail
            refine (atiles_any v _ _ (ND.out.still HX.out)).mono ?_
            rintro r w1 ⟨rfl, hb⟩
            have HX := hid (HX.out.trans (hb.mono HX.out.size))
            clear hb
            go_wp2_with fail
            refine (achanges_any v _ _ _ (ND.out.still HX.out)).mono ?_
            rintro r w1 ⟨rfl, hb⟩
            have HX := hid (HX.out.trans (hb.mono HX.out.size))
            clear hb
            go_wp2_with fail
            refine (aforget_any v _ _ (ND.out.still HX.out)).mono ?_
            rintro r w1 ⟨rfl, hb⟩
            have HX := hid (HX.out.trans (hb.mono HX.out.size))
            clear hb
            go_wp2_with fail
            have KE := hid (heap_alloc_at w1 (.cells #[.int .i64 2, .int .i64 2, .int .i64 2, .int .i64 2, .int .i64 2] 42) _ rfl)
            have HXA := hid (HX.out.alloc HX.out.size (.cells #[.int .i64 2, .int .i64 2, .int .i64 2, .int .i64 2, .int .i64 2] 42))
            clear HX
            go_loopw [162] (fun jv wr' => ∃ j : Nat, j ≤ 5 ∧ jv = .int .i64 (j : Int) ∧ Below (w1.alloc (.cells #[.int .i64 2, .int .i64 2, .int .i64 2, .int .i64 2, .int .i64 2] 42)).heap.size (w1.alloc (.cells #[.int .i64 2, .int .i64 2, .int .i64 2, .int .i64 2, .int .i64 2] 42)) wr') (fun jv _ => 5 - (intOf jv).toNat)
            case atStart => exact ⟨0, by omega, rfl, Below.refl _ _⟩
            case round =>
              obtain ⟨j, hj, rfl, hB5⟩ := hrel
              have HB5 := hid hB5
              clear hB5
              by_cases hjl : j < 5
              · have e6 : decide ((j : Int) < 5) = true := decide_eq_true (by omega)
                have hc : wr.cell? ⟨w1.heap.size, j, none⟩ = some (.int .i64 2) := (cell_row (j := j) (heap_still HB5.out KE.out)).trans (by match j, hjl with | 0, _ | 1, _ | 2, _ | 3, _ | 4, _ => rfl)
                go_wp2_with fail
                exact ⟨⟨j + 1, by omega, by go_num, HB5.out⟩, by simp [intOf]; omega⟩
              · have e6 : decide ((j : Int) < 5) = false := decide_eq_false (by omega)
                have HX := hid (HXA.out.trans (HB5.out.mono HXA.out.size))
                clear HB5 HXA KE
                go_wp2_with fail
                refine (aversion_any v _ (ND.out.still HX.out)).mono ?_
                rintro r w1 ⟨rfl, hb⟩
                have HX := hid (HX.out.trans (hb.mono HX.out.size))
                clear hb
                go_wp2_with fail
                refine (aversions_any v _ (ND.out.still HX.out)).mono ?_
                rintro r w1 ⟨rfl, hb⟩
                have HX := hid (HX.out.trans (hb.mono HX.out.size))
                clear hb
                go_wp2_with fail
                exact ⟨⟨i + 1, by omega, by go_num, HB.out.trans (HX.out.mono HB.out.size)⟩, by simp [intOf]; omega⟩
          · have e5 : decide ((i : Int) < 2) = false := decide_eq_false (by omega)
            have HBE := hid (HB4.out.trans (HB.out.mono hz4))
            go_wp2_with fail
            refine (awake_any _).mono ?_
            rintro r w9 ⟨rfl, hb⟩
            go_wp2_with fail
            go_ret
            exact ⟨rfl, HBE.out.trans (hb.mono HBE.out.size)⟩
theorem flat22n : flatOf Tryz.prog 10 3 = some [some .i64] := by kernel_rfl
theorem size22n : (Tryz.prog.info? 3).map (·.size) = some ([some IntKind.i64] : List (Option IntKind)).length := by kernel_rfl
section
variable {H : Type} {enc : TypeId × Value → H} {w : World} {base : Nat} {spare : Nat → Bool} {held : Bool}
theorem open_aggN {P : Program} {w : World} {r : Reach} {b0 : Nat} {t : TypeId} {n : Nat} {v : Value} (hs : P.cellsOf t = n) (hagg : (match P.underlying t with | some (.struct _) => true | some (.array _ _) => true | _ => false) = true) (hv : Value.okWide P w r b0 t v) :
    ∃ cs : List Value, v = .agg cs.toArray ∧ cs.length = n := by
  obtain ⟨cs, rfl, hsz⟩ : ∃ cs, v = .agg cs ∧ cs.size = P.cellsOf t := by
    unfold Value.okWide at hv
    split at hv
    · obtain ⟨cs, rfl, h, _⟩ := hv; exact ⟨cs, rfl, h⟩
    · obtain ⟨cs, rfl, h, _⟩ := hv; exact ⟨cs, rfl, h⟩
    · rename_i h1 h2
      split at hagg
      · rename_i fs he; exact absurd he (h1 fs)
      · rename_i n e he; exact absurd he (h2 n e)
      · simp at hagg
  exact ⟨cs.toList, by simp, by simpa [hs] using hsz⟩
/-- a slice among the cells of an argument is a slice -/
theorem slice_cell {P : Program} {fuel : Nat} {t e : TypeId} {v : Value} {x : DataW H × List MemPlace} (hu : P.underlying t = some (.slice e)) (hx : DataW.trod enc P w base spare held fuel t [v] = some x) :
    ∃ a n c, v = .slice a n c ∧ n ≤ maxLen := by
  rcases Go.Deep.open_slice hu hx with ⟨h0, _⟩ | ⟨a, len', cap', m, n, D, Pl, h1, hb, hl, hm, hmm, _, hall⟩
  · simp at h0
    exact ⟨none, 0, 0, h0, by simp⟩
  · simp at h1
    exact ⟨_, _, _, h1, by omega⟩
set_option maxRecDepth 100000 in
theorem open_nil {r : Reach} {b0 : Nat} {v : Value} {d : DataW H} {p : List MemPlace} (hv : Value.okWide Tryz.prog w r b0 29 v) (h : DataW.Trod enc Tryz.prog w base spare held 29 v d p) :
    ∃ (ba : Option Addr) (bn bc : Nat) (n k0 k1 : Int) (aa : Option Addr) (an ac : Nat) (ra : Option Addr) (rn rc : Nat), v = .agg #[.slice ba bn bc, .int .i64 n, .int .i64 k0, .int .i64 k1, .slice aa an ac, .slice ra rn rc] ∧ bn ≤ maxLen ∧ an ≤ maxLen ∧ rn ≤ maxLen := by
  have c29 : Tryz.prog.cellsOf 29 = 6 := by kernel_rfl
  have c22 : Tryz.prog.cellsOf 22 = 1 := by kernel_rfl
  have c3 : Tryz.prog.cellsOf 3 = 1 := by kernel_rfl
  have c23 : Tryz.prog.cellsOf 23 = 2 := by kernel_rfl
  have c27 : Tryz.prog.cellsOf 27 = 2 := by kernel_rfl
  have c24 : Tryz.prog.cellsOf 24 = 1 := by kernel_rfl
  have c25 : Tryz.prog.cellsOf 25 = 1 := by kernel_rfl
  obtain ⟨cs, rfl, hsz⟩ := open_aggN c29 (by kernel_rfl) hv
  clear hv
  obtain ⟨fuel, hx⟩ := h
  match cs, hsz with
  | [x0, x1, x2, x3, x4, x5], _ =>
    obtain ⟨xs, m, _, _, _, hxl, hf⟩ := DataW.trod_struct Tryz.underlying29 (show DataW.trod enc Tryz.prog w base spare held fuel 29 _ = _ from by simpa [Value.cells] using hx)
    have h0 := hf 0 _ rfl
    rw [List.getElem?_eq_getElem (by rw [hxl]; decide)] at h0
    have h1 := hf 1 _ rfl
    rw [List.getElem?_eq_getElem (by rw [hxl]; decide)] at h1
    have h2 := hf 2 _ rfl
    rw [List.getElem?_eq_getElem (by rw [hxl]; decide)] at h2
    have h3 := hf 3 _ rfl
    rw [List.getElem?_eq_getElem (by rw [hxl]; decide)] at h3
    obtain ⟨ba, bn, bc, e0, hb⟩ := slice_cell (v := x0) Tryz.underlying22 (by simpa [c22] using h0)
    have k1 := trod_flat 10 3 _ _ _ _ flat22n (by simp [c3]) h1
    obtain ⟨n, v1, e1, _, _⟩ := fits_int (show fitsW (some .i64 :: []) _ from k1)
    simp [c3] at e1
    have k2 := trod_flat 10 23 _ _ _ _ (show flatOf Tryz.prog 10 23 = some [some .i64, some .i64] by kernel_rfl) (by simp [c23]) h2
    obtain ⟨n2, v2, e2, _, k2'⟩ := fits_int (show fitsW (some .i64 :: [some .i64]) _ from k2)
    obtain ⟨n3, v3, e3, _, k3'⟩ := fits_int (show fitsW (some .i64 :: []) _ from k2')
    subst e3
    simp [c23] at e2
    obtain ⟨ys, m', _, _, _, hyl, hg⟩ := DataW.trod_struct Tryz.underlying27 (show DataW.trod enc Tryz.prog w base spare held m 27 [x4, x5] = _ from by simpa [c27] using h3)
    have g0 := hg 0 _ rfl
    rw [List.getElem?_eq_getElem (by rw [hyl]; decide)] at g0
    have g1 := hg 1 _ rfl
    rw [List.getElem?_eq_getElem (by rw [hyl]; decide)] at g1
    obtain ⟨aa, an, ac, e4, ha⟩ := slice_cell (v := x4) Tryz.underlying24 (by simpa [c24] using g0)
    obtain ⟨ra, rn, rc, e5, hr⟩ := slice_cell (v := x5) Tryz.underlying25 (by simpa [c25] using g1)
    subst e0 e4 e5
    obtain ⟨rfl, _⟩ := e1
    obtain ⟨rfl, rfl, _⟩ := e2
    exact ⟨ba, bn, bc, _, _, _, aa, an, ac, ra, rn, rc, rfl, hb, ha, hr⟩
end
set_option maxRecDepth 100000 in
theorem tileNils_lifted (os : Os) (started : os.Started) (H : Type) (enc : TypeId × Value → H) :
    ReturnsInHanded {} Tryz.checked os 3 .any (Rows.tileNilsSpec.pre6 enc Tryz.prog Tryz.f3 Rows.tileNilsRow.domain false) (Rows.tileNilsSpec.post enc Tryz.prog Tryz.f3 false true false false) := by
  refine law_lifted (C := Tryz.checked) (tb := 4) lawOwn started (by kernel_rfl) Tryz.func3 rfl ?_ (show Tryz.f3.resultTypes = #[4] by kernel_rfl) Tryz.underlying4 lawLaid ?_
    (ChangeSpec.witness6 (enc := enc) (C := Tryz.checked) false ⟨#[], #[.agg #[.slice none 0 0, .int .i64 0, .int .i64 0, .int .i64 0, .slice none 0 0, .slice none 0 0]], []⟩ 8 (by kernel_rfl) (by kernel_rfl) (by kernel_rfl) (by kernel_rfl)) ?_
  · intro ds hds
    match ds, hds with
    | [d1], _ => exact ⟨rfl, rfl, rfl⟩
  · rw [Tryz.params3]
    intro t ht
    simp at ht
    rcases ht with rfl
    all_goals exact ⟨by kernel_rfl, of_decide_eq_true (by kernel_rfl)⟩
  · intro W base args ds p hval hA hlt _
    change DataW.TrodAll enc Tryz.prog W 0 (fun _ => true) true Tryz.f3.params.toList args.toList ds p at hA
    change ∀ (j : Nat) t v, Tryz.f3.params[j]? = some t → args[j]? = some v → Value.okWide Tryz.prog W .any base t v at hval
    rw [Tryz.params3] at hA hval
    obtain ⟨v0, vs0, d0, ds0, p0, q0, hargs, rfl, rfl, h0, r0⟩ := trodAll_cons hA
    obtain ⟨rfl, rfl, rfl⟩ := trodAll_nil r0
    obtain rfl : args = #[v0] := by cases args; simp_all
    obtain ⟨ba, bn, bc, n, k0, k1, aa, an, ac, ra, rn, rc, rfl, h1, h2, h3⟩ := open_nil (hval 0 29 v0 rfl rfl) h0
    exact nils_law ba bn bc n k0 k1 aa an ac ra rn rc W (by unfold maxLen at h1; omega) (by unfold maxLen at h2; omega) (by unfold maxLen at h3; omega)
/-- TileNils, whatever the input. -/
theorem tileNils_holds : Rows.TileNilsSaid :=
  OpenClaim.holds_of_wide 3 Tryz.f3 rfl rfl rfl rfl rfl rfl rfl ⟨rfl, rfl, rfl, rfl, rfl⟩ rfl rfl rfl rfl rfl (by kernel_rfl) Tryz.func3 (by kernel_rfl)
    (of_decide_eq_true (by kernel_rfl)) (by unfold Func.isWrapper; rw [if_neg (of_decide_eq_false (by kernel_rfl))]; exact ⟨rfl, rfl⟩)
    (fun os started H enc _ => tileNils_lifted os started H enc)
#print axioms tileNils_holds
end Go.Proofs.YtaglidlabfgjmaaGreat
