/- The parts of a track as they are made: an own slice of own slices. The program's Parts (69): a fix is put behind the last part (region 17). (Printed by wip/gen_fxq.py.) -/
import Derived.Test.YteoikaedpgianaaRFxT
import Derived.Test.YteoikaedpgianaaRPart
namespace Go.Proofs.Yteoikaedpgianaa
open Go.RowKit Go.Sort Go.Lib Go.Shelf Go.Proofs

def row1 (v : Value) : List Value := [v]
def OwnS (W : World) (B : Nat) (tv : Value) (vs : List Value) : Prop := OwnR W B 106 1 tv (vs.map row1)
def apartV2 (u v : Value) : Prop := ∀ b, u.ownBlock = some b → v.ownBlock ≠ some b
/-- the parts of a track that is being made: the block of the track, the slice of the parts, each part a slice of its own -/
structure PtV (W : World) (T : Nat) (tv : Value) (vs : List Value) (P : List (List Fx)) : Prop where
  hT : W.heap[T]? = some (.cells #[tv] 64)
  o : OwnS W T tv vs
  len : vs.length = P.length
  f : ∀ (i : Nat) (v : Value) (p : List Fx), vs[i]? = some v → P[i]? = some p → OwnF W T v p
  ap : ∀ (i j : Nat) (u v : Value), i ≠ j → vs[i]? = some u → vs[j]? = some v → apartV2 u v
/-- the same, its last part by itself; u lies in the slice, v is the part's value -/
structure PtS (W : World) (T : Nat) (tv : Value) (vs0 : List Value) (P0 : List (List Fx)) (u v : Value) (p : List Fx) : Prop where
  hT : W.heap[T]? = some (.cells #[tv] 64)
  o : OwnS W T tv (vs0 ++ [u])
  len : vs0.length = P0.length
  oth : ∀ (i : Nat) (v : Value) (p : List Fx), vs0[i]? = some v → P0[i]? = some p → OwnF W T v p
  apo : ∀ (i j : Nat) (u v : Value), i ≠ j → vs0[i]? = some u → vs0[j]? = some v → apartV2 u v
  last : OwnF W T v p
  ap : ∀ (i : Nat) (x : Value), vs0[i]? = some x → apartV2 v x
section
variable {W W' : World} {T : Nat} {tv : Value} {vs vs0 : List Value} {P P0 : List (List Fx)} {u v : Value} {p : List Fx}
theorem PtV.grow (h : PtV W T tv vs P) (hb : Below W.heap.size W W') : PtV W' T tv vs P :=
  ⟨heap_still hb h.hT, OwnR.grow h.o hb, h.len, fun i v p hv hp => OwnR.grow (h.f i v p hv hp) hb, h.ap⟩
theorem PtS.grow (h : PtS W T tv vs0 P0 u v p) (hb : Below W.heap.size W W') : PtS W' T tv vs0 P0 u v p :=
  ⟨heap_still hb h.hT, OwnR.grow h.o hb, h.len, fun i v p hv hp => OwnR.grow (h.oth i v p hv hp) hb, h.apo, OwnR.grow h.last hb, h.ap⟩
theorem PtS.join (h : PtS W T tv vs0 P0 u u p) : PtV W T tv (vs0 ++ [u]) (P0 ++ [p]) := by
  have e : ∀ (i : Nat) (x : Value), (vs0 ++ [u])[i]? = some x → vs0[i]? = some x ∨ (i = vs0.length ∧ x = u) := fun i x hx => by
    rcases Nat.lt_or_ge i vs0.length with h1 | h1
    · rw [List.getElem?_append_left h1] at hx; exact .inl hx
    · have h2 := (List.getElem?_eq_some_iff.1 hx).1
      rw [List.length_append, List.length_singleton] at h2
      have h3 : i = vs0.length := by omega
      subst h3
      rw [List.getElem?_append_right (Nat.le_refl _), Nat.sub_self] at hx
      exact .inr ⟨rfl, by simpa using hx.symm⟩
  refine ⟨h.hT, h.o, by rw [List.length_append, List.length_append, h.len]; rfl, ?_, ?_⟩
  · intro i x q hx hq
    rcases e i x hx with h1 | ⟨h1, h2⟩
    · have hi := (List.getElem?_eq_some_iff.1 h1).1
      rw [List.getElem?_append_left (by rw [← h.len]; exact hi)] at hq
      exact h.oth i x q h1 hq
    · subst h1 h2
      rw [List.getElem?_append_right (by rw [h.len]; exact Nat.le_refl _), h.len, Nat.sub_self] at hq
      have hq : p = q := by simpa using hq
      subst hq
      exact h.last
  · intro i j x y hij hx hy
    rcases e i x hx with h1 | ⟨h1, h2⟩
    · rcases e j y hy with h3 | ⟨h3, h4⟩
      · exact h.apo i j x y hij h1 h3
      · subst h4; exact fun b hb hb2 => h.ap i x h1 b hb2 hb
    · rcases e j y hy with h3 | ⟨h3, h4⟩
      · subst h2; exact h.ap j y h3
      · omega
theorem PtV.split (h : PtV W T tv vs P) (hn : 0 < P.length) : ∃ vs0 u P0 p, vs = vs0 ++ [u] ∧ P = P0 ++ [p] ∧ PtS W T tv vs0 P0 u u p := by
  have hv : vs ≠ [] := by intro e; rw [e] at h; have := h.len; simp at this; omega
  have hP : P ≠ [] := by intro e; rw [e] at hn; simp at hn
  have e1 := (List.dropLast_concat_getLast hv).symm
  have e2 := (List.dropLast_concat_getLast hP).symm
  generalize vs.dropLast = vs0 at e1
  generalize vs.getLast hv = u at e1
  generalize P.dropLast = P0 at e2
  generalize P.getLast hP = p at e2
  subst e1 e2
  have hl : vs0.length = P0.length := by have := h.len; simp at this; exact this
  have a1 : ∀ {i x}, vs0[i]? = some x → (vs0 ++ [u])[i]? = some x := fun {i x} hx => by rw [List.getElem?_append_left (List.getElem?_eq_some_iff.1 hx).1]; exact hx
  have a2 : ∀ {i x}, P0[i]? = some x → (P0 ++ [p])[i]? = some x := fun {i x} hx => by rw [List.getElem?_append_left (List.getElem?_eq_some_iff.1 hx).1]; exact hx
  refine ⟨vs0, u, P0, p, rfl, rfl, h.hT, h.o, hl, fun i v q h1 h2 => h.f i v q (a1 h1) (a2 h2), fun i j x y hij h1 h2 => h.ap i j x y hij (a1 h1) (a1 h2), h.f vs0.length u p (by simp) (by rw [hl]; simp), fun i x hx => h.ap vs0.length i u x ?_ (by simp) (a1 hx)⟩
  have := (List.getElem?_eq_some_iff.1 hx).1
  omega
/-- the slice of the parts in memory -/
theorem PtS.opened (h : PtS W T tv vs0 P0 u v p) : ∃ g c C, tv = .slice (some ⟨g, 0, none⟩) (vs0.length + 1) c ∧ T ≤ g ∧ W.heap[g]? = some (.cells C 106) ∧ vs0.length + 1 ≤ C.size ∧ W.cell? ⟨g, vs0.length, none⟩ = some u := by
  obtain ⟨g, cap, C, hv, hB, hC, hr, _⟩ := OwnR.rows h.o (by simp)
  rw [List.length_map, List.length_append, List.length_singleton] at hv
  have hc := hr vs0.length [u] (by simp [row1]) 0 (by decide)
  rw [Nat.zero_add, Nat.mul_one, Nat.add_zero] at hc
  refine ⟨g, cap, C, hv, hB, hC, ?_, hc.trans rfl⟩
  have h1 := hc
  rw [cell_row hC] at h1
  have := (Array.getElem?_eq_some_iff.1 (h1.trans rfl : C[vs0.length]? = some u)).1
  omega
/-- the last part grows -/
theorem PtS.more {w7 : World} {v7 : Value} {f : Fx} (h : PtS W T tv vs0 P0 u u p) (ho : OwnR w7 T 55 10 v7 (p.map Fx.row ++ [f.row])) (hg : W.grownBy w7 u.ownBlock) (ha : v7.ownBlock = u.ownBlock ∨ v7.ownBlock = some W.heap.size) : PtS w7 T tv vs0 P0 u v7 (p ++ [f]) := by
  have hb : ∀ k, u.ownBlock ≠ some k → k < W.heap.size → w7.heap[k]? = W.heap[k]? := fun k hk hlt => hg.block k hlt (fun e => hk e.symm)
  have hgl : ∀ {k : Nat} {x : Obj}, W.heap[k]? = some x → k < W.heap.size := fun h => (Array.getElem?_eq_some_iff.1 h).1
  refine ⟨(hb T (own_not h.last h.hT (by decide)) (hgl h.hT)).trans h.hT, OwnR.same h.o (fun k e => hb k (fun e2 => own_apart h.last h.o (by decide) k e2 e) (by obtain ⟨_, h9⟩ := own_type h.o e; exact hgl h9)), h.len, fun i x q hx hq => OwnR.same (h.oth i x q hx hq) (fun k e => hb k (fun e2 => h.ap i x hx k e2 e) (by obtain ⟨_, h9⟩ := own_type (h.oth i x q hx hq) e; exact hgl h9)), h.apo, by unfold OwnF; rw [List.map_append]; exact ho, ?_⟩
  intro i x hx b hb1 hb2
  rcases ha with e | e
  · exact h.ap i x hx b (e ▸ hb1) hb2
  · rw [e] at hb1
    injection hb1 with hb1
    subst hb1
    obtain ⟨q, hq⟩ : ∃ q, P0[i]? = some q := ⟨_, List.getElem?_eq_getElem (by rw [← h.len]; exact (List.getElem?_eq_some_iff.1 hx).1)⟩
    obtain ⟨_, h9⟩ := own_type (h.oth i x q hx hq) hb2
    exact absurd (hgl h9) (Nat.lt_irrefl _)
/-- the last part's value is put into the slice of the parts -/
theorem PtS.put {g n c : Nat} {C : Array Value} (h : PtS W T (.slice (some ⟨g, 0, none⟩) n c) vs0 P0 u v p) (hC : W.heap[g]? = some (.cells C 106)) (hv : v.oneCell' = true) : PtS (W.setRow g (ptL C vs0.length [v])) T (.slice (some ⟨g, 0, none⟩) n c) vs0 P0 v v p := by
  have hn : n = vs0.length + 1 := by
    obtain ⟨a', c', h1⟩ := OwnR.slice h.o
    injection h1 with _ h1 _
    rw [h1, List.length_map, List.length_append]; rfl
  have hset : (W.setRow g (ptL C vs0.length [v])).heap[g]? = some (.cells (ptL C vs0.length [v]) 106) := setRow_heap _ _ _ _ _ _ hC
  have hoth : ∀ k, k ≠ g → (W.setRow g (ptL C vs0.length [v])).heap[k]? = W.heap[k]? := fun k hk => setRow_other _ _ _ _ hk
  have hT := (hoth T (fun e => by
    have h1 := h.hT
    rw [e, hC] at h1
    injection h1 with h1
    injection h1 with _ h1
    exact absurd h1 (by decide))).trans h.hT
  refine ⟨hT, ?_, h.len, fun i x q hx hq => OwnR.same (h.oth i x q hx hq) (fun k e => hoth k (fun e2 => own_not (h.oth i x q hx hq) hC (by decide) (by rw [← e2]; exact e))), h.apo, OwnR.same h.last (fun k e => hoth k (fun e2 => own_not h.last hC (by decide) (by rw [← e2]; exact e))), h.ap⟩
  have h1 := OwnR.put (k := vs0.length) (r := [v]) h.o (by rw [List.length_map, List.length_append, hn]; rfl) (by omega) hC rfl (fun x hx => by rw [List.mem_singleton.1 hx]; exact hv) (by rw [Nat.mul_one]; exact hset)
  have e : ((vs0 ++ [u]).map row1).set vs0.length [v] = (vs0 ++ [v]).map row1 := by
    rw [List.map_append, List.map_append, List.set_append_right _ _ (by rw [List.length_map]; exact Nat.le_refl _), List.length_map, Nat.sub_self]
    rfl
  unfold OwnS
  rw [← e]
  exact h1
/-- a part without fixes is put behind the parts -/
theorem PtV.next {W2 : World} {tv2 : Value} (h : PtV W T tv vs P) (ho : OwnR W2 T 106 1 tv2 (vs.map row1 ++ [[.slice none 0 0]])) (hg : W.grownBy W2 tv.ownBlock) : PtS (W2.setCell ⟨T, 0, none⟩ tv2) T tv2 vs P (.slice none 0 0) (.slice none 0 0) [] := by
  have hgl : ∀ {k : Nat} {x : Obj}, W.heap[k]? = some x → k < W.heap.size := fun h => (Array.getElem?_eq_some_iff.1 h).1
  have hT : W2.heap[T]? = some (.cells #[tv] 64) := (hg.block T (hgl h.hT) (fun e => own_not h.o h.hT (by decide) e.symm)).trans h.hT
  have hF : ∀ i v p, vs[i]? = some v → P[i]? = some p → OwnF W2 T v p := fun i v p h1 h2 => OwnR.same (h.f i v p h1 h2) (fun k e => hg.block k (by obtain ⟨_, h9⟩ := own_type (h.f i v p h1 h2) e; exact hgl h9) (fun e2 => own_apart h.o (h.f i v p h1 h2) (by decide) k e2.symm e))
  refine ⟨heap_setCell hT tv2, ?_, h.len, fun i v p h1 h2 => OwnR.same (hF i v p h1 h2) (fun k e => setCell_other (fun e2 => own_not (hF i v p h1 h2) hT (by decide) (by rw [← e2]; exact e))), h.ap, OwnR.nil _ _ _ _, fun _ _ _ b hb => by simp [Value.ownBlock] at hb⟩
  unfold OwnS
  rw [List.map_append]
  exact OwnR.same ho (fun k e => setCell_other (fun e2 => own_not ho hT (by decide) (by rw [← e2]; exact e)))
end
end Go.Proofs.Yteoikaedpgianaa
namespace Go.Proofs.Yteoikaedpgianaa
open Go.RowKit Go.Sort Go.Lib Go.Shelf Go.Proofs

theorem size106 : (Try.prog.info? 106).map (·.size) = some 1 := by kernel_rfl
/-- the region of a body by its number -/
def findR (n : Nat) : Code → Option Code
  | .region id ops d => if id = n then some (.region id ops d) else none
  | .seq a b => match findR n a with | some c => some c | none => findR n b
  | .cond _ a b => match findR n a with | some c => some c | none => findR n b
  | .block _ a => findR n a
  | .loop a => findR n a
  | .scope a => findR n a
  | _ => none
theorem PtV.other {W : World} {T g : Nat} {tv : Value} {vs : List Value} {P : List (List Fx)} {D : Array Value} (h : PtV W T tv vs P) (hg : g < T) : PtV (W.setRow g D) T tv vs P := by
  have hoth : ∀ k, k ≠ g → (W.setRow g D).heap[k]? = W.heap[k]? := fun k hk => setRow_other _ _ _ _ hk
  refine ⟨(hoth T (by omega)).trans h.hT, OwnR.same h.o (fun k e => hoth k (by have := OwnR.ownBlock h.o k e; omega)), h.len, fun i v p h1 h2 => OwnR.same (h.f i v p h1 h2) (fun k e => hoth k (by have := OwnR.ownBlock (h.f i v p h1 h2) k e; omega)), h.ap⟩
theorem PtS.cellU {W : World} {T g n c k0 : Nat} {vs0 : List Value} {P0 : List (List Fx)} {u v : Value} {p : List Fx} (h : PtS W T (.slice (some ⟨g, 0, none⟩) n c) vs0 P0 u v p) (hk : k0 = vs0.length) : W.cell? ⟨g, k0, none⟩ = some u := by
  obtain ⟨g', c', C, hv, _, _, _, hc⟩ := h.opened
  injection hv with h1 _ _
  injection h1 with h1
  injection h1 with h1
  subst h1 hk
  exact hc
set_option maxRecDepth 100000 in
set_option maxHeartbeats 3200000 in
theorem parts_put (s0 s1 s2 s3 s4 s5 s6 s7 s9 s12 s13 s14 s15 s16 s17 s18 s19 s20 s21 s22 s23 s24 s25 s26 s27 s28 s29 s30 s31 s32 s33 s34 s35 s36 s37 s38 s39 s40 s41 s42 s43 s44 s45 s46 s47 s48 s49 s50 s51 s52 s53 s54 s55 s56 s57 s58 s59 s60 s61 s62 s63 s64 s65 s66 s67 s68 s69 s70 s71 s72 s73 s74 s75 s76 s77 s78 s79 s80 s81 s82 s83 s84 s85 s86 s87 s88 s89 s90 s91 s92 s93 s94 s95 s96 s97 s98 : Value) (WT wx : World) (gt n1 k0 ct bx : Nat) (vs0 : List Value) (P0 : List (List Fx)) (u : Value) (p : List Fx) (x : Fx) (Q : Exit → Act → World → Prop) (R : Code) (hR : Try.f69.body.bind (findR 17) = some R) (hk0 : k0 = vs0.length) (hnt : k0 < n1)
    (hpt : PtS wx WT.heap.size (.slice (some ⟨gt, 0, none⟩) n1 ct) vs0 P0 u u p) (hbt : Below WT.heap.size WT wx) (hkx : wx.heap[bx]? = some (.cells x.row.toArray 55)) (hbx : u.ownBlock ≠ some bx) (hpl : p.length ≤ 1000)
    (h : ∀ (u85 u86 u87 u88 u89 u90 u91 u92 u93 u94 u95 u96 v : Value) (W5 : World), PtS W5 WT.heap.size (.slice (some ⟨gt, 0, none⟩) n1 ct) vs0 P0 v v (p ++ [x]) → Below WT.heap.size WT W5 → Q Exit.normal ({ tmps := List.toArray (List.cons (s0) (List.cons (s1) (List.cons (s2) (List.cons (s3) (List.cons (s4) (List.cons (s5) (List.cons (s6) (List.cons (s7) (List.cons (.pointer (some ⟨WT.heap.size, 0, none⟩)) (List.cons (s9) (List.cons (.pointer (some ⟨bx, 0, none⟩)) (List.cons (.int .i64 (k0 : Int)) (List.cons (s12) (List.cons (s13) (List.cons (s14) (List.cons (s15) (List.cons (s16) (List.cons (s17) (List.cons (s18) (List.cons (s19) (List.cons (s20) (List.cons (s21) (List.cons (s22) (List.cons (s23) (List.cons (s24) (List.cons (s25) (List.cons (s26) (List.cons (s27) (List.cons (s28) (List.cons (s29) (List.cons (s30) (List.cons (s31) (List.cons (s32) (List.cons (s33) (List.cons (s34) (List.cons (s35) (List.cons (s36) (List.cons (s37) (List.cons (s38) (List.cons (s39) (List.cons (s40) (List.cons (s41) (List.cons (s42) (List.cons (s43) (List.cons (s44) (List.cons (s45) (List.cons (s46) (List.cons (s47) (List.cons (s48) (List.cons (s49) (List.cons (s50) (List.cons (s51) (List.cons (s52) (List.cons (s53) (List.cons (s54) (List.cons (s55) (List.cons (s56) (List.cons (s57) (List.cons (s58) (List.cons (s59) (List.cons (s60) (List.cons (s61) (List.cons (s62) (List.cons (s63) (List.cons (s64) (List.cons (s65) (List.cons (s66) (List.cons (s67) (List.cons (s68) (List.cons (s69) (List.cons (s70) (List.cons (s71) (List.cons (s72) (List.cons (s73) (List.cons (s74) (List.cons (s75) (List.cons (s76) (List.cons (s77) (List.cons (s78) (List.cons (s79) (List.cons (s80) (List.cons (s81) (List.cons (s82) (List.cons (s83) (List.cons (s84) (List.cons (u85) (List.cons (u86) (List.cons (u87) (List.cons (u88) (List.cons (u89) (List.cons (u90) (List.cons (u91) (List.cons (u92) (List.cons (u93) (List.cons (u94) (List.cons (u95) (List.cons (u96) (List.cons (s97) (List.cons (s98) List.nil))))))))))))))))))))))))))))))))))))))))))))))))))))))))))))))))))))))))))))))))))))))))))))))))))), defers := [] } : Act) W5) :
    Code.wp Try.prog R Q ({ tmps := List.toArray (List.cons (s0) (List.cons (s1) (List.cons (s2) (List.cons (s3) (List.cons (s4) (List.cons (s5) (List.cons (s6) (List.cons (s7) (List.cons (.pointer (some ⟨WT.heap.size, 0, none⟩)) (List.cons (s9) (List.cons (.pointer (some ⟨bx, 0, none⟩)) (List.cons (.int .i64 (k0 : Int)) (List.cons (s12) (List.cons (s13) (List.cons (s14) (List.cons (s15) (List.cons (s16) (List.cons (s17) (List.cons (s18) (List.cons (s19) (List.cons (s20) (List.cons (s21) (List.cons (s22) (List.cons (s23) (List.cons (s24) (List.cons (s25) (List.cons (s26) (List.cons (s27) (List.cons (s28) (List.cons (s29) (List.cons (s30) (List.cons (s31) (List.cons (s32) (List.cons (s33) (List.cons (s34) (List.cons (s35) (List.cons (s36) (List.cons (s37) (List.cons (s38) (List.cons (s39) (List.cons (s40) (List.cons (s41) (List.cons (s42) (List.cons (s43) (List.cons (s44) (List.cons (s45) (List.cons (s46) (List.cons (s47) (List.cons (s48) (List.cons (s49) (List.cons (s50) (List.cons (s51) (List.cons (s52) (List.cons (s53) (List.cons (s54) (List.cons (s55) (List.cons (s56) (List.cons (s57) (List.cons (s58) (List.cons (s59) (List.cons (s60) (List.cons (s61) (List.cons (s62) (List.cons (s63) (List.cons (s64) (List.cons (s65) (List.cons (s66) (List.cons (s67) (List.cons (s68) (List.cons (s69) (List.cons (s70) (List.cons (s71) (List.cons (s72) (List.cons (s73) (List.cons (s74) (List.cons (s75) (List.cons (s76) (List.cons (s77) (List.cons (s78) (List.cons (s79) (List.cons (s80) (List.cons (s81) (List.cons (s82) (List.cons (s83) (List.cons (s84) (List.cons (s85) (List.cons (s86) (List.cons (s87) (List.cons (s88) (List.cons (s89) (List.cons (s90) (List.cons (s91) (List.cons (s92) (List.cons (s93) (List.cons (s94) (List.cons (s95) (List.cons (s96) (List.cons (s97) (List.cons (s98) List.nil))))))))))))))))))))))))))))))))))))))))))))))))))))))))))))))))))))))))))))))))))))))))))))))))))), defers := [] } : Act) wx := by
  have HK0 := hid hk0
  have HPT := hid hpt
  have HBT := hid hbt
  have HKX := hid hkx
  have HBX := hid hbx
  have HPL := hid hpl
  have HQ := hid h
  clear hk0 hpt hbt hkx hbx hpl h
  obtain ⟨i0, hinf, hz0, hz1, hz2⟩ := info_parts info55f
  have HI := hid hinf
  have HZ0 := hid hz0
  have HZ1 := hid hz1
  have HZ2 := hid hz2
  clear hinf hz0 hz1 hz2
  simp [findR, Try.f69] at hR
  subst hR
  refine gen_act (fun A0 hA => ?_)
  refine wp_region_by (by kernel_rfl) (by kernel_rfl) [some 85, some 86, some 87, some 88, some 89, some 90, some 91, some 92, some 93, some 94, some 95, some 96, none] rfl (by decide) (StR (fun j => ([.pointer (some ⟨WT.heap.size, 0, none⟩), .slice (some ⟨gt, 0, none⟩) n1 ct, .int .i64 (k0 : Int), .pointer (some ⟨WT.heap.size, 0, none⟩), .slice (some ⟨gt, 0, none⟩) n1 ct, .int .i64 (k0 : Int), .pointer (some ⟨gt, k0, none⟩), u, .agg #[.int .i64 x.t, .int .i64 x.x, .int .i64 x.y, .int .i64 x.z, .int .i64 x.e, .int .i64 x.a, .int .i64 x.b, .int .i64 x.c, .int .i64 x.d, .int .i64 x.g], undef, undef, .pointer (some ⟨gt, k0, none⟩), undef] : List Value).getD j undef) [9, 10, 12] [1, 4, 7] (fun kk vv WW => (match kk with | 0 => PtS WW WT.heap.size (.slice (some ⟨gt, 0, none⟩) n1 ct) vs0 P0 u u p | 1 => PtS WW WT.heap.size (.slice (some ⟨gt, 0, none⟩) n1 ct) vs0 P0 u u p ∧ (∃ q, vv 0 = .slice (some ⟨q, 0, none⟩) 1 1 ∧ WW.heap[q]? = some (.cells #[.int .i64 x.t, .int .i64 x.x, .int .i64 x.y, .int .i64 x.z, .int .i64 x.e, .int .i64 x.a, .int .i64 x.b, .int .i64 x.c, .int .i64 x.d, .int .i64 x.g] 55)) | 2 => PtS WW WT.heap.size (.slice (some ⟨gt, 0, none⟩) n1 ct) vs0 P0 u (vv 1) (p ++ [x]) | _ => PtS WW WT.heap.size (.slice (some ⟨gt, 0, none⟩) n1 ct) vs0 P0 (vv 1) (vv 1) (p ++ [x])) ∧ Below WT.heap.size WT WW ∧ wx.heap.size ≤ WW.heap.size ∧ WW.heap[bx]? = some (.cells x.row.toArray 55))) (selfF A0 _) (putF_self A0 _)
    (StR.start ⟨HPT.out.grow (Below.refl _ _).drew, HBT.out.drew, Nat.le_refl _, heap_still (Below.refl _ _).drew HKX.out⟩ (fun _ => rfl)) ?hsZ ?htZ
  case hsZ =>
    refine ⟨?_, ?_, ?_, ?_, ?_, ?_, ?_, ?_, ?_, ?_, ?_, ?_, ?_, trivial⟩
    · intro K L us W hK0 hL hd hR
      have hK := hid (fun v9 A9 h1 (h3 : v9 = .pointer (some ⟨WT.heap.size, 0, none⟩)) => hK0 v9 A9 W h1 (hR.pure (by decide) h3)); clear hK0
      clear hd
      simp only [putF]
      rw [hA]
      go_frame
      go_wp2_with fail
      exact hK.out _ _ (by rw [hA]; simp only [putF]; kernel_rfl) rfl
    · intro K L us W hK0 hL hd hR
      have e0 : us 0 = .pointer (some ⟨WT.heap.size, 0, none⟩) := hR.vals 0 (by decide) (all_on hd ⟨0, Ground.data⟩ (by simp) rfl)
      have hK := hid (fun v9 A9 h1 (h3 : v9 = .slice (some ⟨gt, 0, none⟩) n1 ct) => hK0 v9 A9 W h1 (hR.pure (by decide) h3)); clear hK0
      have c0 : W.cell? ⟨WT.heap.size, 0, none⟩ = some (.slice (some ⟨gt, 0, none⟩) n1 ct) := by obtain ⟨k9, hk9, hS9⟩ := hR.early (j := 1) (by decide) hL (by decide); match k9, hk9, hS9 with | 0, _, hS9 => exact (cell_row (j := 0) hS9.1.hT).trans rfl | 1, _, hS9 => exact (cell_row (j := 0) hS9.1.1.hT).trans rfl | 2, _, hS9 => exact (cell_row (j := 0) hS9.1.hT).trans rfl
      clear hd
      simp only [putF]
      rw [hA, e0]
      go_frame
      go_wp2_with fail
      exact hK.out _ _ (by rw [hA]; simp only [putF]; rw [e0]; kernel_rfl) rfl
    · intro K L us W hK0 hL hd hR
      have hK := hid (fun v9 A9 h1 (h3 : v9 = .int .i64 (k0 : Int)) => hK0 v9 A9 W h1 (hR.pure (by decide) h3)); clear hK0
      clear hd
      simp only [putF]
      rw [hA]
      go_frame
      go_wp2_with fail
      exact hK.out _ _ (by rw [hA]; simp only [putF]; kernel_rfl) rfl
    · intro K L us W hK0 hL hd hR
      have hK := hid (fun v9 A9 h1 (h3 : v9 = .pointer (some ⟨WT.heap.size, 0, none⟩)) => hK0 v9 A9 W h1 (hR.pure (by decide) h3)); clear hK0
      clear hd
      simp only [putF]
      rw [hA]
      go_frame
      go_wp2_with fail
      exact hK.out _ _ (by rw [hA]; simp only [putF]; kernel_rfl) rfl
    · intro K L us W hK0 hL hd hR
      have e3 : us 3 = .pointer (some ⟨WT.heap.size, 0, none⟩) := hR.vals 3 (by decide) (all_on hd ⟨3, Ground.data⟩ (by simp) rfl)
      have hK := hid (fun v9 A9 h1 (h3 : v9 = .slice (some ⟨gt, 0, none⟩) n1 ct) => hK0 v9 A9 W h1 (hR.pure (by decide) h3)); clear hK0
      have c0 : W.cell? ⟨WT.heap.size, 0, none⟩ = some (.slice (some ⟨gt, 0, none⟩) n1 ct) := by obtain ⟨k9, hk9, hS9⟩ := hR.early (j := 4) (by decide) hL (by decide); match k9, hk9, hS9 with | 0, _, hS9 => exact (cell_row (j := 0) hS9.1.hT).trans rfl | 1, _, hS9 => exact (cell_row (j := 0) hS9.1.1.hT).trans rfl | 2, _, hS9 => exact (cell_row (j := 0) hS9.1.hT).trans rfl
      clear hd
      simp only [putF]
      rw [hA, e3]
      go_frame
      go_wp2_with fail
      exact hK.out _ _ (by rw [hA]; simp only [putF]; rw [e3]; kernel_rfl) rfl
    · intro K L us W hK0 hL hd hR
      have hK := hid (fun v9 A9 h1 (h3 : v9 = .int .i64 (k0 : Int)) => hK0 v9 A9 W h1 (hR.pure (by decide) h3)); clear hK0
      clear hd
      simp only [putF]
      rw [hA]
      go_frame
      go_wp2_with fail
      exact hK.out _ _ (by rw [hA]; simp only [putF]; kernel_rfl) rfl
    · intro K L us W hK0 hL hd hR
      have e4 : us 4 = .slice (some ⟨gt, 0, none⟩) n1 ct := hR.vals 4 (by decide) (all_on hd ⟨4, Ground.data⟩ (by simp) rfl)
      have e5 : us 5 = .int .i64 (k0 : Int) := hR.vals 5 (by decide) (all_on hd ⟨5, Ground.data⟩ (by simp) rfl)
      have hK := hid (fun v9 A9 h1 (h3 : v9 = .pointer (some ⟨gt, k0, none⟩)) => hK0 v9 A9 W h1 (hR.pure (by decide) h3)); clear hK0
      clear hd
      simp only [putF]
      rw [hA, e4, e5]
      go_frame
      go_wp2_with fail
      exact hK.out _ _ (by rw [hA]; simp only [putF]; rw [e4, e5]; kernel_rfl) rfl
    · intro K L us W hK0 hL hd hR
      have e6 : us 6 = .pointer (some ⟨gt, k0, none⟩) := hR.vals 6 (by decide) (all_on hd ⟨6, Ground.data⟩ (by simp) rfl)
      have hK := hid (fun v9 A9 h1 (h3 : v9 = u) => hK0 v9 A9 W h1 (hR.pure (by decide) h3)); clear hK0
      have c0 : W.cell? ⟨gt, k0, none⟩ = some (u) := by obtain ⟨k9, hk9, hS9⟩ := hR.early (j := 7) (by decide) hL (by decide); match k9, hk9, hS9 with | 0, _, hS9 => exact hS9.1.cellU HK0.out | 1, _, hS9 => exact hS9.1.1.cellU HK0.out | 2, _, hS9 => exact hS9.1.cellU HK0.out
      clear hd
      simp only [putF]
      rw [hA, e6]
      go_frame
      go_wp2_with fail
      exact hK.out _ _ (by rw [hA]; simp only [putF]; rw [e6]; kernel_rfl) rfl
    · intro K L us W hK0 hL hd hR
      have hK := hid (fun v9 A9 h1 (h3 : v9 = .agg #[.int .i64 x.t, .int .i64 x.x, .int .i64 x.y, .int .i64 x.z, .int .i64 x.e, .int .i64 x.a, .int .i64 x.b, .int .i64 x.c, .int .i64 x.d, .int .i64 x.g]) => hK0 v9 A9 W h1 (hR.pure (by decide) h3)); clear hK0
      have hx9 : W.heap[bx]? = some (.cells x.row.toArray 55) := by obtain ⟨_, _, _, hSq⟩ := hR.st; exact hSq.2.2.2
      clear hd
      simp only [putF]
      rw [hA]
      go_frame
      go_wp2_with (refine wpList_load_at rfl 55 (.tmp 10) rfl rfl hx9 Try.underlying55 rfl size55f (row_arr x) ?_)
      exact hK.out _ _ (by rw [hA]; simp only [putF]; kernel_rfl) rfl
    · intro K L us W hK0 hL hd hR
      have e8 : us 8 = .agg #[.int .i64 x.t, .int .i64 x.x, .int .i64 x.y, .int .i64 x.z, .int .i64 x.e, .int .i64 x.a, .int .i64 x.b, .int .i64 x.c, .int .i64 x.d, .int .i64 x.g] := hR.vals 8 (by decide) (all_on hd ⟨8, Ground.data⟩ (by simp) rfl)
      have hS := hR.at 0 (by decide) (.inl rfl) hL
      have hK := hid (fun v9 A9 W9 h1 (hS' : (fun kk vv WW => (match kk with | 0 => PtS WW WT.heap.size (.slice (some ⟨gt, 0, none⟩) n1 ct) vs0 P0 u u p | 1 => PtS WW WT.heap.size (.slice (some ⟨gt, 0, none⟩) n1 ct) vs0 P0 u u p ∧ (∃ q, vv 0 = .slice (some ⟨q, 0, none⟩) 1 1 ∧ WW.heap[q]? = some (.cells #[.int .i64 x.t, .int .i64 x.x, .int .i64 x.y, .int .i64 x.z, .int .i64 x.e, .int .i64 x.a, .int .i64 x.b, .int .i64 x.c, .int .i64 x.d, .int .i64 x.g] 55)) | 2 => PtS WW WT.heap.size (.slice (some ⟨gt, 0, none⟩) n1 ct) vs0 P0 u (vv 1) (p ++ [x]) | _ => PtS WW WT.heap.size (.slice (some ⟨gt, 0, none⟩) n1 ct) vs0 P0 (vv 1) (vv 1) (p ++ [x])) ∧ Below WT.heap.size WT WW ∧ wx.heap.size ≤ WW.heap.size ∧ WW.heap[bx]? = some (.cells x.row.toArray 55)) 1 (fun j => if j = 0 then v9 else selV [9, 10, 12] us j) W9) => hK0 v9 A9 W9 h1 (hR.next (by decide) 0 (by decide) (.inl rfl) hL hS' (fun h => absurd h (by decide)))); clear hK0
      obtain ⟨hp4, ⟨hB4, hz4, hx4⟩⟩ := hS
      have P4 := hid hp4
      clear hp4
      have B4 := hid hB4
      have X4 := hid hx4
      clear hB4 hx4
      clear hd
      simp only [putF]
      rw [hA, e8]
      go_frame
      go_wp2_with fail
      refine hK.out (.slice (some ⟨W.heap.size, 0, none⟩) 1 1) _ _ (by rw [hA]; simp only [putF]; rw [e8]; kernel_rfl) ?_
      exact ⟨⟨P4.out.grow ((Below.refl W.heap.size W).alloc (Nat.le_refl _) (.cells #[.int .i64 x.t, .int .i64 x.x, .int .i64 x.y, .int .i64 x.z, .int .i64 x.e, .int .i64 x.a, .int .i64 x.b, .int .i64 x.c, .int .i64 x.d, .int .i64 x.g] 55)), ⟨W.heap.size, rfl, heap_alloc_at _ _ _ rfl⟩⟩, B4.out.trans (((Below.refl W.heap.size W).alloc (Nat.le_refl _) (.cells #[.int .i64 x.t, .int .i64 x.x, .int .i64 x.y, .int .i64 x.z, .int .i64 x.e, .int .i64 x.a, .int .i64 x.b, .int .i64 x.c, .int .i64 x.d, .int .i64 x.g] 55)).mono B4.out.size), by simp; omega, heap_still ((Below.refl W.heap.size W).alloc (Nat.le_refl _) (.cells #[.int .i64 x.t, .int .i64 x.x, .int .i64 x.y, .int .i64 x.z, .int .i64 x.e, .int .i64 x.a, .int .i64 x.b, .int .i64 x.c, .int .i64 x.d, .int .i64 x.g] 55)) X4.out⟩
    · intro K L us W hK0 hL hd hR
      have e7 : us 7 = u := hR.vals 7 (by decide) (all_on hd ⟨7, Ground.data⟩ (by simp) rfl)
      have hS := hR.at 1 (by decide) (.inr ⟨by decide, all_on hd ⟨9, Ground.data⟩ (by simp) rfl⟩) hL
      have hK := hid (fun v9 A9 W9 h1 (hS' : (fun kk vv WW => (match kk with | 0 => PtS WW WT.heap.size (.slice (some ⟨gt, 0, none⟩) n1 ct) vs0 P0 u u p | 1 => PtS WW WT.heap.size (.slice (some ⟨gt, 0, none⟩) n1 ct) vs0 P0 u u p ∧ (∃ q, vv 0 = .slice (some ⟨q, 0, none⟩) 1 1 ∧ WW.heap[q]? = some (.cells #[.int .i64 x.t, .int .i64 x.x, .int .i64 x.y, .int .i64 x.z, .int .i64 x.e, .int .i64 x.a, .int .i64 x.b, .int .i64 x.c, .int .i64 x.d, .int .i64 x.g] 55)) | 2 => PtS WW WT.heap.size (.slice (some ⟨gt, 0, none⟩) n1 ct) vs0 P0 u (vv 1) (p ++ [x]) | _ => PtS WW WT.heap.size (.slice (some ⟨gt, 0, none⟩) n1 ct) vs0 P0 (vv 1) (vv 1) (p ++ [x])) ∧ Below WT.heap.size WT WW ∧ wx.heap.size ≤ WW.heap.size ∧ WW.heap[bx]? = some (.cells x.row.toArray 55)) 2 (fun j => if j = 1 then v9 else selV [9, 10, 12] us j) W9) => hK0 v9 A9 W9 h1 (hR.next (by decide) 1 (by decide) (.inr ⟨by decide, all_on hd ⟨9, Ground.data⟩ (by simp) rfl⟩) hL hS' (fun h => absurd h (by decide)))); clear hK0
      obtain ⟨⟨hp4, ⟨q, hq, hq4⟩⟩, ⟨hB4, hz4, hx4⟩⟩ := hS
      have e9 : us 9 = .slice (some ⟨q, 0, none⟩) 1 1 := hq
      have P4 := hid hp4
      have Q4 := hid hq4
      clear hp4 hq hq4
      have B4 := hid hB4
      have X4 := hid hx4
      clear hB4 hx4
      have HL1 := hid (show (p.map Fx.row).length + [x.row].length ≤ maxLen by rw [List.length_map, List.length_singleton]; have h1 := HPL.out; unfold maxLen; omega)
      have HL2 := hid (show ((p.map Fx.row).length + [x.row].length) * 80 ≤ 140737488355328 by rw [List.length_map, List.length_singleton]; have h1 := HPL.out; omega)
      clear hd
      simp only [putF]
      rw [hA, e7, e9]
      go_frame
      go_wp2_with (first | (at_builtin; go_loud (refine wpList_append_rowsR rfl (.tmp 92) (.tmp 94) 106 rfl WT.heap.size 55 i0 _ 10 80 Try.underlying106 HI.out HZ0.out HZ1.out HZ2.out rfl (by decide) (u) (p.map Fx.row) [x.row] rfl P4.out.last q 0 1 1 rfl rfl (rows_one (f := x) Q4.out) (rows_wide [x]) HL1.out HL2.out B4.out.size ?_; intro v7 w7 ho1 ho2 ho3; have HO1 := hid ho1; have HO2 := hid ho2; have HO3 := hid ho3; clear ho1 ho2 ho3)))
      refine hK.out v7 _ _ (by rw [hA]; simp only [putF]; rw [e7, e9]; kernel_rfl) ?_
      have hgl : ∀ {k : Nat} {x : Obj}, W.heap[k]? = some x → k < W.heap.size := fun h => (Array.getElem?_eq_some_iff.1 h).1
      refine ⟨P4.out.more HO1.out HO2.out HO3.out, below_grown B4.out HO2.out (fun k hk => OwnR.ownBlock P4.out.last k hk) B4.out.size, by have h1 := HO2.out.size; omega, (HO2.out.block _ (hgl X4.out) (fun e => HBX.out e.symm)).trans X4.out⟩
    · intro K L us W hK0 hL hd hR
      have e1 : us 1 = .slice (some ⟨gt, 0, none⟩) n1 ct := hR.vals 1 (by decide) (all_on hd ⟨1, Ground.data⟩ (by simp) rfl)
      have e2 : us 2 = .int .i64 (k0 : Int) := hR.vals 2 (by decide) (all_on hd ⟨2, Ground.data⟩ (by simp) rfl)
      have hK := hid (fun v9 A9 h1 (h3 : v9 = .pointer (some ⟨gt, k0, none⟩)) => hK0 v9 A9 W h1 (hR.pure (by decide) h3)); clear hK0
      clear hd
      simp only [putF]
      rw [hA, e1, e2]
      go_frame
      go_wp2_with fail
      exact hK.out _ _ (by rw [hA]; simp only [putF]; rw [e1, e2]; kernel_rfl) rfl
    · intro K L us W hK0 hL hd hR
      have e11 : us 11 = .pointer (some ⟨gt, k0, none⟩) := hR.vals 11 (by decide) (all_on hd ⟨11, Ground.data⟩ (by simp) rfl)
      have hS := hR.at 2 (by decide) (.inr ⟨by decide, all_on hd ⟨10, Ground.data⟩ (by simp) rfl⟩) hL
      have hK := hid (fun v9 A9 W9 h1 (hS' : (fun kk vv WW => (match kk with | 0 => PtS WW WT.heap.size (.slice (some ⟨gt, 0, none⟩) n1 ct) vs0 P0 u u p | 1 => PtS WW WT.heap.size (.slice (some ⟨gt, 0, none⟩) n1 ct) vs0 P0 u u p ∧ (∃ q, vv 0 = .slice (some ⟨q, 0, none⟩) 1 1 ∧ WW.heap[q]? = some (.cells #[.int .i64 x.t, .int .i64 x.x, .int .i64 x.y, .int .i64 x.z, .int .i64 x.e, .int .i64 x.a, .int .i64 x.b, .int .i64 x.c, .int .i64 x.d, .int .i64 x.g] 55)) | 2 => PtS WW WT.heap.size (.slice (some ⟨gt, 0, none⟩) n1 ct) vs0 P0 u (vv 1) (p ++ [x]) | _ => PtS WW WT.heap.size (.slice (some ⟨gt, 0, none⟩) n1 ct) vs0 P0 (vv 1) (vv 1) (p ++ [x])) ∧ Below WT.heap.size WT WW ∧ wx.heap.size ≤ WW.heap.size ∧ WW.heap[bx]? = some (.cells x.row.toArray 55)) 3 (fun j => if j = 2 then v9 else selV [9, 10, 12] us j) W9) => hK0 v9 A9 W9 h1 (hR.next (by decide) 2 (by decide) (.inr ⟨by decide, all_on hd ⟨10, Ground.data⟩ (by simp) rfl⟩) hL hS' (fun _ => by intro j hj; simp at hj; rcases hj with rfl | rfl | rfl; exact all_on hd ⟨1, Ground.phase⟩ (by simp) rfl; exact all_on hd ⟨4, Ground.phase⟩ (by simp) rfl; exact all_on hd ⟨7, Ground.phase⟩ (by simp) rfl))); clear hK0
      obtain ⟨hp4, ⟨hB4, hz4, hx4⟩⟩ := hS
      obtain ⟨v7, e10⟩ : ∃ v, us 10 = v := ⟨_, rfl⟩
      have hp5 : PtS W WT.heap.size (.slice (some ⟨gt, 0, none⟩) n1 ct) vs0 P0 (u) (us 10) (p ++ [x]) := hp4
      rw [e10] at hp5
      obtain ⟨a9, c9, e99⟩ := OwnR.slice hp5.last
      subst e99
      generalize hl9 : ((p ++ [x]).map Fx.row).length = n9 at *
      have P4 := hid hp5
      clear hp4 hp5 hl9
      have B4 := hid hB4
      have X4 := hid hx4
      clear hB4 hx4
      obtain ⟨gq, cq, C, hvq, hTq, hC, hsz, hcu⟩ := P4.out.opened
      obtain ⟨eg, _⟩ : gt = gq ∧ True := ⟨(by injection hvq with h1 _ _; injection h1 with h1; injection h1), trivial⟩
      subst eg
      rw [← HK0.out] at hsz
      have HC := hid hC
      clear hC hvq hcu
      clear hd
      simp only [putF]
      rw [hA, e11, e10]
      go_frame
      go_wp2_with (first | (go_loud (refine pt_store1 rfl 106 (.tmp 96) (.tmp 95) rfl gt k0 _ rfl rfl rfl rfl HC.out size106 hsz ?_)))
      refine hK.out undef _ _ (by rw [hA]; simp only [putF]; rw [e11, e10]; kernel_rfl) ?_
      refine ⟨?_, below_setRow B4.out hTq _, by simp; omega, (setRow_other _ _ _ _ (fun e => by have h1 := X4.out; rw [e, HC.out] at h1; injection h1 with h1; injection h1 with _ h1; exact absurd h1 (by decide))).trans X4.out⟩
      show PtS _ WT.heap.size (.slice (some ⟨gt, 0, none⟩) n1 ct) vs0 P0 (us 10) (us 10) (p ++ [x])
      rw [e10, HK0.out]
      exact P4.out.put HC.out rfl
  case htZ =>
    intro L us W5 hall hR
    have hS := hR.last (fun i hi => match i, hi with | 0, _ => hall 9 (by decide) | 1, _ => hall 10 (by decide) | 2, _ => hall 12 (by decide))
    have e0 : us 0 = .pointer (some ⟨WT.heap.size, 0, none⟩) := hR.vals 0 (by decide) (hall 0 (by decide))
    have e1 : us 1 = .slice (some ⟨gt, 0, none⟩) n1 ct := hR.vals 1 (by decide) (hall 1 (by decide))
    have e2 : us 2 = .int .i64 (k0 : Int) := hR.vals 2 (by decide) (hall 2 (by decide))
    have e3 : us 3 = .pointer (some ⟨WT.heap.size, 0, none⟩) := hR.vals 3 (by decide) (hall 3 (by decide))
    have e4 : us 4 = .slice (some ⟨gt, 0, none⟩) n1 ct := hR.vals 4 (by decide) (hall 4 (by decide))
    have e5 : us 5 = .int .i64 (k0 : Int) := hR.vals 5 (by decide) (hall 5 (by decide))
    have e6 : us 6 = .pointer (some ⟨gt, k0, none⟩) := hR.vals 6 (by decide) (hall 6 (by decide))
    have e7 : us 7 = u := hR.vals 7 (by decide) (hall 7 (by decide))
    have e8 : us 8 = .agg #[.int .i64 x.t, .int .i64 x.x, .int .i64 x.y, .int .i64 x.z, .int .i64 x.e, .int .i64 x.a, .int .i64 x.b, .int .i64 x.c, .int .i64 x.d, .int .i64 x.g] := hR.vals 8 (by decide) (hall 8 (by decide))
    have e11 : us 11 = .pointer (some ⟨gt, k0, none⟩) := hR.vals 11 (by decide) (hall 11 (by decide))
    clear hR hall
    obtain ⟨hp5, hB5, _, hx5⟩ := hS
    obtain ⟨v9, e9⟩ : ∃ v, us 9 = v := ⟨_, rfl⟩
    obtain ⟨v10, e10⟩ : ∃ v, us 10 = v := ⟨_, rfl⟩
    have hp6 : PtS W5 WT.heap.size (.slice (some ⟨gt, 0, none⟩) n1 ct) vs0 P0 (us 10) (us 10) (p ++ [x]) := hp5
    rw [e10] at hp6
    have P5 := hid hp6
    have B5 := hid hB5
    clear hp5 hp6 hB5 hx5
    simp only [putF]
    rw [hA, e0, e1, e2, e3, e4, e5, e6, e7, e8, e11, e9, e10]
    go_frame
    clear hA e9 e10 e0 e1 e2 e3 e4 e5 e6 e7 e8 e11
    exact HQ.out _ _ _ _ _ _ _ _ _ _ _ _ _ _ P5.out B5.out
end Go.Proofs.Yteoikaedpgianaa
