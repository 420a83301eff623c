/- The reference's layout (51): what it returns are the tiles that the plain law tells of. -/
import Derived.Test.YteanlcefdoigcaaRLayM
import Derived.Test.YteanlcefdoigcaaRLevX
import Derived.Test.YteanlcefdoigcaaRBefore
namespace Go.Proofs.Yteanlcefdoigcaa
open Go.RowKit Go.Sort

theorem size22 : (Try.prog.info? 22).map (·.size) = some 1 := by kernel_rfl
theorem own_rowsV {W : World} {base t sz n c : Nat} {a : Option Addr} {l : List (List Value)} (h : OwnR W base t sz (.slice a n c) l) : (l = [] ∧ (a = none → c = 0)) ∨ ∃ b off, a = some ⟨b, off, none⟩ ∧ RowsAt W b off sz l := by
  by_cases hl : l = []
  · refine Or.inl ⟨hl, fun e => ?_⟩
    rcases h.2.2 with ⟨h1, _⟩ | ⟨g, cap, cur, h1, _⟩
    · injection h1
    · injection h1 with h1
      rw [e] at h1
      cases h1
  · obtain ⟨g, cap, cur, h1, _, _, h2, _⟩ := OwnR.rows h (List.length_pos_iff.2 hl)
    injection h1 with h1
    exact Or.inr ⟨g, 0, h1, h2⟩
def Fresh36 (B : Nat) (C : Array Value) (W : World) (v : Value) : Prop := ∃ g, v = .slice (some ⟨g, 0, none⟩) 1 1 ∧ B ≤ g ∧ W.heap[g]? = some (.cells C 36)
theorem Fresh36.stb (B : Nat) (C : Array Value) : Stb (Fresh36 B C) := fun _ _ _ hB ⟨g, h1, h2, h3⟩ => ⟨g, h1, h2, heap_still hB h3⟩
def FreshT (B : Nat) (C : Array Value) (k : Ky) (W : World) (v : Value) : Prop := ∃ g, v = .agg #[.int .i64 k.L, .int .i64 k.x, .int .i64 k.y, .int .i64 k.z, .slice (some ⟨g, 0, none⟩) 1 1] ∧ B ≤ g ∧ W.heap[g]? = some (.cells C 36)
theorem FreshT.stb (B : Nat) (C : Array Value) (k : Ky) : Stb (FreshT B C k) := fun _ _ _ hB ⟨g, h1, h2, h3⟩ => ⟨g, h1, h2, heap_still hB h3⟩
def FreshE (B : Nat) (C : Array Value) (k : Ky) (W : World) (v : Value) : Prop := ∃ g, v = .slice (some ⟨g, 0, none⟩) 1 1 ∧ B ≤ g ∧ ∃ g', B ≤ g' ∧ W.heap[g]? = some (.cells #[.int .i64 k.L, .int .i64 k.x, .int .i64 k.y, .int .i64 k.z, .slice (some ⟨g', 0, none⟩) 1 1] 49) ∧ W.heap[g']? = some (.cells C 36)
theorem FreshE.stb (B : Nat) (C : Array Value) (k : Ky) : Stb (FreshE B C k) := fun _ _ _ hB ⟨g, h1, h2, g', h3, h4, h5⟩ => ⟨g, h1, h2, g', h3, heap_still hB h4, heap_still hB h5⟩
theorem one_own {W : World} {base g : Nat} {p : Pt} (h : W.heap[g]? = some (.cells p.row.toArray 36)) (hB : base ≤ g) : OwnP W base (.slice (some ⟨g, 0, none⟩) 1 1) [p] :=
  ⟨Wide.one rfl (Pt.row_one p), rfl, Or.inr ⟨g, 1, p.row.toArray, rfl, hB, h, Nat.le_refl _, by unfold maxLen; omega, rfl, by simp [Pt.row]⟩⟩
/-- a tile is laid behind the others -/
theorem tiles_new {W W' : World} {base gp : Nat} {v v' : Value} {E : List Te} {k : Ky} {p : Pt} (h : TilesIn W base v E) (hp : W.heap[gp]? = some (.cells p.row.toArray 36)) (hB : base ≤ gp) (hown : OwnR W' base 49 5 v' (E.map Te.row ++ [Te.row ⟨k, .slice (some ⟨gp, 0, none⟩) 1 1, [p]⟩])) (hg : W.grownBy W' v.ownBlock) :
    TilesIn W' base v' (E ++ [(⟨k, .slice (some ⟨gp, 0, none⟩) 1 1, [p]⟩ : Te)]) := by
  refine ⟨by rw [List.map_append]; exact hown, fun e he => ?_⟩
  rcases List.mem_append.1 he with q | q
  · exact OwnR.turned (h.2 e q) (turned_grown hg) (fun b hb e2 => own_apart (h.2 e q) h.1 (by decide) hb e2.symm)
  · obtain rfl := List.mem_singleton.1 q
    refine one_own ((hg.block gp (Array.getElem?_eq_some_iff.1 hp).1 (fun e2 => ?_)).trans hp) hB
    obtain ⟨cur, hc⟩ := OwnR.typed h.1 e2.symm
    rw [hp] at hc
    injection hc with hc
    injection hc with _ hc
    exact absurd hc (by decide)
/-- between two points -/
def RLRel (W2 : World) (L : List Pt) (c n : Nat) (ov iv : Value) (W : World) : Prop :=
  ∃ (i : Nat) (E : List Te), i ≤ n ∧ iv = .int .i64 (i : Int) ∧ TilesIn W W2.heap.size ov E ∧ Tiles (QL L c i) (E.map Te.tl) ∧ (∀ e ∈ E, e.ok ∧ e.pts.length ≤ i) ∧ E.length ≤ i ∧ Below W2.heap.size W2 W
/-- between two tiles that a point is compared with -/
def RIn (W2 : World) (gk : Nat) (k : Ky) (p : Pt) (E : List Te) (m : Nat) (ov fv qv : Value) (W : World) : Prop :=
  ∃ (q : Nat) (f : Bool) (E' : List Te), q ≤ m ∧ qv = .int .i64 (q : Int) ∧ fv = .bool f ∧ TilesIn W W2.heap.size ov E' ∧ W.heap[gk]? = some (.cells #[.int .i64 k.L, .int .i64 k.x, .int .i64 k.y, .int .i64 k.z] 39) ∧ FoundAt k p E E' q f ∧ Below W2.heap.size W2 W
theorem size49r : (Try.prog.info? 49).map (·.size) = some 5 := by kernel_rfl
def kLt (a b : Te) : Prop := a.key.lt b.key
/-- between two rounds of the tiles' sort -/
def TOut (W2 : World) (E : List Te) (m : Nat) (ov iv : Value) (W : World) : Prop :=
  ∃ (i : Nat) (F : List Te), i ≤ m ∧ iv = .int .i64 (i : Int) ∧ F.Perm E ∧ SortedTo kLt F i ∧ TilesIn W W2.heap.size ov F ∧ Below W2.heap.size W2 W
def TInn (W2 : World) (E : List Te) (i : Nat) (ov kv : Value) (W : World) : Prop :=
  ∃ (k : Nat) (F : List Te), k ≤ i ∧ kv = .int .i64 (k : Int) ∧ F.Perm E ∧ InsAt kLt F i k ∧ TilesIn W W2.heap.size ov F ∧ Below W2.heap.size W2 W
theorem tiles_swap {W : World} {base g n cap x y : Nat} {C : Array Value} {F : List Te} {p q : Te} (h : TilesIn W base (.slice (some ⟨g, 0, none⟩) n cap) F) (hC : W.heap[g]? = some (.cells C 49)) (hp : p.ok) (hq : q.ok) (hx : F[x]? = some p) (hy : F[y]? = some q) :
    TilesIn ((W.setRow g (ptL C (x * 5) q.row)).setRow g (ptL (ptL C (x * 5) q.row) (y * 5) p.row)) base (.slice (some ⟨g, 0, none⟩) n cap) ((F.set x q).set y p) := by
  refine ⟨own_swapE (enc := Te.row) h.1 hC rfl rfl (Te.row_one p hp) (Te.row_one q hq) hx hy, fun e he => ?_⟩
  have hm : e ∈ F := by
    rcases List.mem_or_eq_of_mem_set he with q1 | q1
    · rcases List.mem_or_eq_of_mem_set q1 with q2 | q2
      · exact q2
      · rw [q2]; exact List.mem_of_getElem? hy
    · rw [q1]; exact List.mem_of_getElem? hx
  have hne : ∀ b, e.v.ownBlock = some b → ¬ b = g := fun b hb e2 => by
    subst e2
    obtain ⟨c1, q1⟩ := OwnR.typed (h.2 e hm) hb
    rw [hC] at q1
    injection q1 with q1
    injection q1 with _ q1
    exact absurd q1 (by decide)
  exact OwnR.turned (OwnR.turned (h.2 e hm) (turned_row _ _ _) hne) (turned_row _ _ _) hne
set_option maxRecDepth 100000 in
set_option maxHeartbeats 6400000 in
theorem rlay_any (pv : Value) (S : List Pt) (c : Nat) (w : World) (hp : PtsV w pv S) (hp0 : NilV pv) (hS : GoodS S) (hf : ∀ p ∈ S, p.fine) (hn : S.length ≤ 4096) :
    Calls Try.prog 51 #[pv, .int .i64 c] w fun r w' => (∃ v E, r = .returned v ∧ TilesV w' v E ∧ IsLayout S c (E.map Te.tl)) ∧ Below w.heap.size w w' := by
  have HP := hid hp
  have HP0 := hid hp0
  have HS := hid hS
  have HF := hid hf
  obtain ⟨pa, pc, rfl, hpd⟩ := hp
  obtain ⟨n, hnl⟩ : ∃ n, n = S.length := ⟨_, rfl⟩
  rw [← hnl] at hn HP HP0 ⊢
  have HN := hid hnl
  clear hnl hpd hf hp0 hS
  obtain ⟨i0, hi, hz0, hz1, hz2⟩ := info_parts info36
  have HI := hid hi
  have HZ0 := hid hz0
  have HZ1 := hid hz1
  have HZ2 := hid hz2
  clear hi hz0 hz1 hz2
  obtain ⟨i1, hi, hz0, hz1, hz2⟩ := info_parts info49
  have JI := hid hi
  have JZ0 := hid hz0
  have JZ1 := hid hz1
  have JZ2 := hid hz2
  clear hi hz0 hz1 hz2
  go_enter Try.func51, Try.ntmps51
  go_wp2_with fail
  refine (rsorted_any _ S w HP.out HP0.out (by rw [← HN.out]; omega)).mono ?_
  rintro r w1 ⟨⟨v1, rfl, L, hol, hperm, hasc⟩, hb1⟩
  have HB1 := hid hb1
  have HOL := hid hol
  have HPM := hid hperm
  have HLN := hid (show L.length = n from hperm.length_eq.trans HN.out.symm)
  have HAS := hid (show L.Pairwise (fun p q => p.id < q.id) from asc_ids hperm HS.out.1 hasc)
  have HFL := hid (show ∀ p ∈ L, p.fine from fun p hp => HF.out p (hperm.mem_iff.1 hp))
  obtain ⟨la, lc, hlv⟩ := hol.slice
  rw [HLN.out] at hlv
  subst hlv
  clear hb1 hol hperm hasc
  go_wp2_with fail
  refine (levels_any _ L c w1 HOL.out.ptsV HFL.out (by rw [HLN.out]; exact hn)).mono ?_
  rintro r w2 ⟨⟨v2, rfl, hlv⟩, hb2⟩
  have HB2 := hid (HB1.out.trans (hb2.mono HB1.out.size))
  have HOL2 := hid (OwnR.grow' HOL.out hb2)
  have HLV := hid hlv
  obtain ⟨xa, xc, hxv⟩ := OwnR.slice hlv
  rw [List.length_map, List.length_map, HLN.out] at hxv
  subst hxv
  clear hb2 hlv
  go_wp2_with fail
  refine gen_world (fun W2 hW2 => ?_)
  subst hW2
  go_loopw [7, 22] (fun ov iv W => RLRel W2 L c n ov iv W) (fun _ iv _ => n - (intOf iv).toNat)
  case atStart => exact ⟨0, [], by omega, rfl, ⟨OwnR.nil _ _ _ _, fun e he => by simp at he⟩, Tiles.nil (fun p k h => by simp [QL] at h), fun e he => by simp at he, by simp, Below.refl _ _⟩
  case round =>
    obtain ⟨i, E, hi, rfl, hte, htl, hks, hel, hB⟩ := hrel
    obtain ⟨oa, oc, hov⟩ := hte.slice
    obtain ⟨m, hm⟩ : ∃ m, m = E.length := ⟨_, rfl⟩
    rw [← hm] at hov hel
    subst hov
    have HTE := hid hte
    have HTL := hid htl
    have HKS := hid hks
    have HBX := hid hB
    have HM := hid hm
    have hzw := hB.size
    clear hte htl hks hB hm
    by_cases hlt : i < n
    · have d1 : decide ((i : Int) < (n : Int)) = true := decide_eq_true (by omega)
      obtain ⟨p, hp⟩ : ∃ p, L[i]? = some p := ⟨_, List.getElem?_eq_getElem (by rw [HLN.out]; exact hlt)⟩
      have HPI := hid hp
      obtain ⟨g, gc, hsl, hgb, hgs, hcells⟩ := OwnP.cells HOL2.out (by rw [HLN.out]; omega)
      obtain ⟨rfl, rfl⟩ : la = some ⟨g, 0, none⟩ ∧ lc = gc := by
        injection hsl with e1 e2 e3
        exact ⟨e1, e3⟩
      have YP := hid (fun j hj => hcells i p hp j hj)
      obtain ⟨lev, hlev, hl12, hat⟩ := lvOf_13 L c p
      obtain ⟨gl, xc', lcur, hxs, hxB, hxc, hxr, _⟩ := OwnR.rows HLV.out (by rw [List.length_map, List.length_map, HLN.out]; omega)
      obtain ⟨rfl, rfl⟩ : xa = some ⟨gl, 0, none⟩ ∧ xc = xc' := by
        injection hxs with e1 e2 e3
        exact ⟨e1, e3⟩
      have hgl : gl < W2.heap.size := (Array.getElem?_eq_some_iff.1 hxc).1
      have YL := hid (show W2.cell? ⟨gl, i, none⟩ = some (.int .i64 (lev : Int)) by
        have := hxr i (iRow (lvOf L c 13 p)) (by rw [List.getElem?_map, List.getElem?_map, hp]; rfl) 0 (by decide)
        rw [Nat.mul_one, Nat.zero_add, Nat.add_zero, hlev] at this
        exact this)
      have HAT := hid hat
      have hpf := HFL.out p (List.mem_of_getElem? hp)
      obtain ⟨k, hk⟩ : ∃ k, k = cellK lev p := ⟨_, rfl⟩
      have HSM := hid (show k.small by rw [hk]; exact cellK_small hpf hl12)
      rw [← hk] at HAT
      have HCC := hid (show cellC lev p.x p.y p.zl = #[.int .i64 k.L, .int .i64 k.x, .int .i64 k.y, .int .i64 k.z] by rw [hk]; rfl)
      have HXC := hid (fun W => rCell_any p.id p.x p.y p.zl p.zh p.wd p.nm p.of p.cl lev hl12 hpf.2.1 hpf.2.2.1 hpf.2.2.2 W)
      clear hcells hp hsl hlev hat hxs hxB hxc hxr hpf hk
      obtain ⟨p0, p1, p2, p3, p4, p5, p6, p7, p8⟩ := p
      have YPW := hid (fun j hj => (HBX.out.cell hgs).trans (YP.out j hj))
      have YLW := hid ((HBX.out.cell hgl).trans YL.out)
      have HGW := hid (Nat.lt_of_lt_of_le hgs hzw)
      have HLW := hid (Nat.lt_of_lt_of_le hgl hzw)
      go_wp2_with fail
      refine gen_act (fun A0 hA => ?_)
      refine wp_region_last (by kernel_rfl) (by kernel_rfl) [some 25, some 26, some 27, some 28, some 29, some 30, some 31, some 32, some 33, some 9, none] rfl (by decide) 10 rfl (by kernel_rfl) (by kernel_rfl)
        [IsV (.slice (some ⟨g, 0, none⟩) n lc), IsV (.int .i64 (i : Int)), IsV (.pointer (some ⟨g, i * 9, none⟩)), IsV (.agg #[.int .i64 p0, .int .i64 p1, .int .i64 p2, .int .i64 p3, .int .i64 p4, .int .i64 p5, .int .i64 p6, .int .i64 p7, .int .i64 p8]), IsV (.slice (some ⟨gl, 0, none⟩) n xc), IsV (.int .i64 (i : Int)), IsV (.pointer (some ⟨gl, i, none⟩)), IsV (.int .i64 (lev : Int)), IsV (.agg (cellC lev p1 p2 p3)), FreshK wr.heap.size]
        ⟨IsV.stb _, IsV.stb _, IsV.stb _, IsV.stb _, IsV.stb _, IsV.stb _, IsV.stb _, IsV.stb _, IsV.stb _, FreshK.stb _, trivial⟩ ?hs1_7_W5 ?hlast_7_W5
      case hs1_7_W5 =>
        refine ⟨?_, ?_, ?_, ?_, ?_, ?_, ?_, ?_, ?_, ?_, trivial⟩
        · intro K us W hK0 hB hd
          have hK := hid hK0; clear hK0
          have HBW := hid hB
          have hsW := hB.size
          have GB := hid (HBX.out.trans (hB.mono HBX.out.size))
          clear hd
          simp only [putF]
          rw [hA]
          go_frame
          go_wp2_with fail
          exact hK.out _ _ _ (by rw [hA]; simp only [putF]; kernel_rfl) (Below.refl _ _) rfl
        · intro K us W hK0 hB hd
          have hK := hid hK0; clear hK0
          have HBW := hid hB
          have hsW := hB.size
          have GB := hid (HBX.out.trans (hB.mono HBX.out.size))
          clear hd
          simp only [putF]
          rw [hA]
          go_frame
          go_wp2_with fail
          exact hK.out _ _ _ (by rw [hA]; simp only [putF]; kernel_rfl) (Below.refl _ _) rfl
        · intro K us W hK0 hB hd
          have hK := hid hK0; clear hK0
          have HBW := hid hB
          have hsW := hB.size
          have GB := hid (HBX.out.trans (hB.mono HBX.out.size))
          have e0 : us 0 = .slice (some ⟨g, 0, none⟩) n lc := hd ⟨0, Ground.data⟩ (by simp) rfl
          have e1 : us 1 = .int .i64 (i : Int) := hd ⟨1, Ground.data⟩ (by simp) rfl
          clear hd
          simp only [putF]
          rw [hA, e0, e1]
          go_frame
          go_wp2_with fail
          exact hK.out _ _ _ (by rw [hA]; simp only [putF]; rw [e0, e1]; kernel_rfl) (Below.refl _ _) rfl
        · intro K us W hK0 hB hd
          have hK := hid hK0; clear hK0
          have HBW := hid hB
          have hsW := hB.size
          have GB := hid (HBX.out.trans (hB.mono HBX.out.size))
          have e2 : us 2 = .pointer (some ⟨g, i * 9, none⟩) := hd ⟨2, Ground.data⟩ (by simp) rfl
          clear hd
          have c0 : W.cell? ⟨g, i * 9, none⟩ = some (.int .i64 p0) := by rw [hB.cell HGW.out]; exact YPW.out 0 (by decide)
          have c1 : W.cell? ⟨g, i * 9 + 1, none⟩ = some (.int .i64 p1) := by rw [hB.cell HGW.out]; exact YPW.out 1 (by decide)
          have c2 : W.cell? ⟨g, i * 9 + 2, none⟩ = some (.int .i64 p2) := by rw [hB.cell HGW.out]; exact YPW.out 2 (by decide)
          have c3 : W.cell? ⟨g, i * 9 + 3, none⟩ = some (.int .i64 p3) := by rw [hB.cell HGW.out]; exact YPW.out 3 (by decide)
          have c4 : W.cell? ⟨g, i * 9 + 4, none⟩ = some (.int .i64 p4) := by rw [hB.cell HGW.out]; exact YPW.out 4 (by decide)
          have c5 : W.cell? ⟨g, i * 9 + 5, none⟩ = some (.int .i64 p5) := by rw [hB.cell HGW.out]; exact YPW.out 5 (by decide)
          have c6 : W.cell? ⟨g, i * 9 + 6, none⟩ = some (.int .i64 p6) := by rw [hB.cell HGW.out]; exact YPW.out 6 (by decide)
          have c7 : W.cell? ⟨g, i * 9 + 7, none⟩ = some (.int .i64 p7) := by rw [hB.cell HGW.out]; exact YPW.out 7 (by decide)
          have c8 : W.cell? ⟨g, i * 9 + 8, none⟩ = some (.int .i64 p8) := by rw [hB.cell HGW.out]; exact YPW.out 8 (by decide)
          simp only [putF]
          rw [hA, e2]
          go_frame
          go_wp2_with fail
          exact hK.out _ _ _ (by rw [hA]; simp only [putF]; rw [e2]; kernel_rfl) (Below.refl _ _) rfl
        · intro K us W hK0 hB hd
          have hK := hid hK0; clear hK0
          have HBW := hid hB
          have hsW := hB.size
          have GB := hid (HBX.out.trans (hB.mono HBX.out.size))
          clear hd
          simp only [putF]
          rw [hA]
          go_frame
          go_wp2_with fail
          exact hK.out _ _ _ (by rw [hA]; simp only [putF]; kernel_rfl) (Below.refl _ _) rfl
        · intro K us W hK0 hB hd
          have hK := hid hK0; clear hK0
          have HBW := hid hB
          have hsW := hB.size
          have GB := hid (HBX.out.trans (hB.mono HBX.out.size))
          clear hd
          simp only [putF]
          rw [hA]
          go_frame
          go_wp2_with fail
          exact hK.out _ _ _ (by rw [hA]; simp only [putF]; kernel_rfl) (Below.refl _ _) rfl
        · intro K us W hK0 hB hd
          have hK := hid hK0; clear hK0
          have HBW := hid hB
          have hsW := hB.size
          have GB := hid (HBX.out.trans (hB.mono HBX.out.size))
          have e4 : us 4 = .slice (some ⟨gl, 0, none⟩) n xc := hd ⟨4, Ground.data⟩ (by simp) rfl
          have e5 : us 5 = .int .i64 (i : Int) := hd ⟨5, Ground.data⟩ (by simp) rfl
          clear hd
          simp only [putF]
          rw [hA, e4, e5]
          go_frame
          go_wp2_with fail
          exact hK.out _ _ _ (by rw [hA]; simp only [putF]; rw [e4, e5]; kernel_rfl) (Below.refl _ _) rfl
        · intro K us W hK0 hB hd
          have hK := hid hK0; clear hK0
          have HBW := hid hB
          have hsW := hB.size
          have GB := hid (HBX.out.trans (hB.mono HBX.out.size))
          have e6 : us 6 = .pointer (some ⟨gl, i, none⟩) := hd ⟨6, Ground.data⟩ (by simp) rfl
          clear hd
          have c0 : W.cell? ⟨gl, i, none⟩ = some (.int .i64 (lev : Int)) := by rw [hB.cell HLW.out]; exact YLW.out
          simp only [putF]
          rw [hA, e6]
          go_frame
          go_wp2_with fail
          exact hK.out _ _ _ (by rw [hA]; simp only [putF]; rw [e6]; kernel_rfl) (Below.refl _ _) rfl
        · intro K us W hK0 hB hd
          have hK := hid hK0; clear hK0
          have HBW := hid hB
          have hsW := hB.size
          have GB := hid (HBX.out.trans (hB.mono HBX.out.size))
          have e3 : us 3 = .agg #[.int .i64 p0, .int .i64 p1, .int .i64 p2, .int .i64 p3, .int .i64 p4, .int .i64 p5, .int .i64 p6, .int .i64 p7, .int .i64 p8] := hd ⟨3, Ground.data⟩ (by simp) rfl
          have e7 : us 7 = .int .i64 (lev : Int) := hd ⟨7, Ground.data⟩ (by simp) rfl
          clear hd
          simp only [putF]
          rw [hA, e3, e7]
          go_frame
          go_wp2_with fail
          refine (HXC.out W).mono ?_
          rintro r W' ⟨rfl, hb⟩
          go_wp2_with fail
          exact hK.out _ _ _ (by rw [hA]; simp only [putF]; rw [e3, e7]; kernel_rfl) hb rfl
        · intro K us W hK0 hB hd
          have hK := hid hK0; clear hK0
          have HBW := hid hB
          have hsW := hB.size
          have GB := hid (HBX.out.trans (hB.mono HBX.out.size))
          clear hd
          simp only [putF]
          rw [hA]
          go_frame
          go_wp2_with fail
          exact hK.out _ _ _ (by rw [hA]; simp only [putF]; kernel_rfl) ((Below.refl _ _).alloc (Nat.le_refl _) _) (⟨_, rfl, hsW, heap_alloc_at _ _ _ rfl⟩)
      intro K us W5 hK0 hB hp
      have hK := hid hK0
      clear hK0
      have hd9 : (FreshK wr.heap.size) W5 (us 9) := hp 9 (by decide)
      obtain ⟨g9, e9, hg9, hh9⟩ := hd9
      have e8 : us 8 = .agg (cellC lev p1 p2 p3) := hp 8 (by decide)
      have HB5 := hid (HBX.out.trans (hB.mono HBX.out.size))
      have HSW5 := hid (fun n x => @heap_still _ _ n x hB)
      have hzW5 := hB.size
      have hbW5 := hid hB
      clear hp
      simp only [putF]
      rw [hA, e9, e8]
      skip
      go_frame
      go_wp2_with (refine wpList_store_at rfl 39 (.tmp 9) (.tmp 33) rfl rfl rfl hh9 size39 rfl rfl rfl ?_)
      refine hK.out undef _ _ (by rw [hA]; simp only [putF]; rw [e9, e8]; kernel_rfl) ?_
      clear hK hB hA e9 e8
      have HK6 := hid (show (W5.setRow g9 (cellC lev p1 p2 p3)).heap[g9]? = some (.cells #[.int .i64 k.L, .int .i64 k.x, .int .i64 k.y, .int .i64 k.z] 39) from (setRow_heap _ _ _ _ _ _ hh9).trans (by rw [show cellC lev p1 p2 p3 = #[.int .i64 k.L, .int .i64 k.x, .int .i64 k.y, .int .i64 k.z] from HCC.out]))
      have HB6 := hid (below_setRow hbW5.out hg9 (cellC lev p1 p2 p3))
      go_wp2_with fail
      generalize W5.setRow g9 (cellC lev p1 p2 p3) = W6 at HK6 HB6 ⊢
      clear hh9 HSW5 hzW5 hbW5 HB5 HCC HXC
      have hz6 := HB6.out.size
      go_loopw [10, 36] (fun fv qv W => RIn W2 g9 k ⟨p0, p1, p2, p3, p4, p5, p6, p7, p8⟩ E m (.slice oa m oc) fv qv W) (fun _ qv _ => m - (intOf qv).toNat)
      case atStart => exact ⟨0, false, E, by omega, rfl, rfl, HTE.out.grow HB6.out, HK6.out, found_start _ _ _, HBX.out.trans (HB6.out.mono hzw)⟩
      case round =>
        obtain ⟨q, f, E', hq, rfl, rfl, hte, hkb, hfo, hB⟩ := hrel
        have HTQ := hid hte
        have HKQ := hid hkb
        have HFO := hid hfo
        have HBQ := hid hB
        have hzq := hB.size
        clear hte hkb hfo hB
        by_cases hlt2 : q < m
        · have d2 : decide ((q : Int) < (m : Int)) = true := decide_eq_true (by omega)
          obtain ⟨e, he⟩ : ∃ e, E[q]? = some e := ⟨_, List.getElem?_eq_getElem (by rw [← HM.out]; exact hlt2)⟩
          have HE := hid he
          have HE2 := hid (show E'[q]? = some e from (found_at HFO.out).1.trans he)
          obtain ⟨go, oc', ocur, hos, hoB, hoc, hor, hocap, _, hocs⟩ := OwnR.rows HTQ.out.1 (by rw [List.length_map, (found_at HFO.out).2, ← HM.out]; omega)
          obtain ⟨rfl, rfl⟩ : oa = some ⟨go, 0, none⟩ ∧ oc = oc' := by
            injection hos with e1 e2 e3
            exact ⟨e1, e3⟩
          rw [List.length_map, (found_at HFO.out).2, ← HM.out] at hocap
          have hcell : ∀ j, j < 5 → wr.cell? ⟨go, q * 5 + j, none⟩ = e.row[j]? := fun j hj => by
            have := hor q e.row (by rw [List.getElem?_map, HE2.out]; rfl) j hj
            rw [Nat.zero_add] at this
            exact this
          have hpe := HTQ.out.2 e (List.mem_of_getElem? HE2.out)
          obtain ⟨ea, ec, hev⟩ := hpe.slice
          have HPE := hid hpe
          have HEN := hid (show e.pts.length ≤ i from (HKS.out e (List.mem_of_getElem? he)).2)
          have HOC := hid hoc
          have HOS := hid (show ocur.size = oc * 5 from hocs)
          have hkq : g9 < wr.heap.size := (Array.getElem?_eq_some_iff.1 HKQ.out).1
          have hgo : go < wr.heap.size := (Array.getElem?_eq_some_iff.1 hoc).1
          have hgk : g9 ≠ go := fun e => by
            have h1 := HKQ.out
            rw [e, hoc] at h1
            injection h1 with h1
            injection h1 with _ h1
            exact absurd h1 (by decide)
          have heq := eqKeys e.key k
          have HEV := hid hev
          have HKE : Hid (∀ b, b = decide (e.key = k) → ∀ W, _) := hid heq
          clear hos hoc hor hocs hpe he heq
          obtain ⟨⟨k0, k1, k2, k3⟩, ev, ep⟩ := e
          obtain rfl : ev = .slice ea ep.length ec := HEV.out
          obtain ⟨en, hen⟩ : ∃ en, en = ep.length := ⟨_, rfl⟩
          simp only [Te.row, Ky.row] at hcell
          simp only [← hen] at hcell HPE HEN
          have HLE := hid hen
          have a0 := fun d os => cell_regrown (show wr.cell? ⟨go, q * 5, none⟩ = some (.int .i64 k0) from hcell 0 (by decide)) d os
          have a1 := fun d os => cell_regrown (show wr.cell? ⟨go, q * 5 + 1, none⟩ = some (.int .i64 k1) from hcell 1 (by decide)) d os
          have a2 := fun d os => cell_regrown (show wr.cell? ⟨go, q * 5 + 2, none⟩ = some (.int .i64 k2) from hcell 2 (by decide)) d os
          have a3 := fun d os => cell_regrown (show wr.cell? ⟨go, q * 5 + 3, none⟩ = some (.int .i64 k3) from hcell 3 (by decide)) d os
          have b0 := fun d os => cell_regrown (show wr.cell? ⟨g9, 0, none⟩ = some (.int .i64 k.L) from (cell_row (j := 0) HKQ.out).trans rfl) d os
          have b1 := fun d os => cell_regrown (show wr.cell? ⟨g9, 1, none⟩ = some (.int .i64 k.x) from (cell_row (j := 1) HKQ.out).trans rfl) d os
          have b2 := fun d os => cell_regrown (show wr.cell? ⟨g9, 2, none⟩ = some (.int .i64 k.y) from (cell_row (j := 2) HKQ.out).trans rfl) d os
          have b3 := fun d os => cell_regrown (show wr.cell? ⟨g9, 3, none⟩ = some (.int .i64 k.z) from (cell_row (j := 3) HKQ.out).trans rfl) d os
          have HC4 := hid (show wr.cell? ⟨go, q * 5 + 4, none⟩ = some (.slice ea en ec) from hcell 4 (by decide))
          clear hcell hen
          by_cases hke : (⟨k0, k1, k2, k3⟩ : Ky) = k
          · have heq := HKE.out true (decide_eq_true hke).symm
            have HKE2 := hid hke
            clear hke
            go_wp2_with fail
            refine wp_region_quiet_below (by kernel_rfl) (by kernel_rfl) ?_
            repeat (first | go_big_quiet_step (fail) | quiet_step (fail))
            refine wpQuiet_nil ?_
            intro _ hw'
            obtain ⟨⟨dqV, osV⟩, hw2⟩ := hw'
            subst hw2
            have HQV := hid (below_regrown wr dqV osV)
            generalize Sort.grow (redrawn wr dqV) osV = V at HQV ⊢
            have hsV := HQV.out.size
            clear a0 a1 a2 a3 b0 b1 b2 b3 heq
            obtain ⟨rfl, rfl, hfin⟩ := found_hit HFO.out HTL.out.keys HE.out HKE2.out
            have HFIN := hid hfin
            clear hfin
            go_upto_region 14 with fail
            have hA7 : Below wr.heap.size wr (V.alloc (.cells #[] 36)) := HQV.out.alloc HQV.out.size _
            have c9 : (V.alloc (.cells #[] 36)).cell? ⟨go, q * 5 + 4, none⟩ = some (.slice ea en ec) := (hA7.cell hgo).trans HC4.out
            have HGQ := hid (Nat.lt_of_lt_of_le hgs hzq)
            have HO0 := hid (show OwnR (V.alloc (.cells #[] 36)) wr.heap.size 36 9 (.slice (some ⟨V.heap.size, 0, none⟩) 0 0) [] from ⟨Wide.nil 9, rfl, Or.inr ⟨_, 0, #[], rfl, hsV, (by repeat' (first | (refine heap_alloc_at _ _ _ ?_; (first | rfl | (simp; done) | (simp; omega))) | (refine heap_alloc_past _ _ _ _ ?_))), Nat.le_refl _, by unfold maxLen; omega, rfl, rfl⟩⟩)
            have HX7 := hid (own_rowsV (OwnR.grow' HPE.out hA7))
            have HL7 := hid (show en = (ep.map Pt.row).length by rw [List.length_map]; exact HLE.out)
            have HL8 := hid (show ([] : List (List Value)).length + (ep.map Pt.row).length ≤ maxLen by rw [← HL7.out]; have := HEN.out; show 0 + en ≤ maxLen; unfold maxLen; omega)
            have HL9 := hid (show (([] : List (List Value)).length + (ep.map Pt.row).length) * 72 ≤ 140737488355328 by rw [← HL7.out]; have := HEN.out; show (0 + en) * 72 ≤ _; omega)
            have HWD := hid (wide_map (enc := Pt.row) (k := 9) (fun _ => rfl) Pt.row_one ep)
            have HS7 := hid (show wr.heap.size ≤ (V.alloc (.cells #[] 36)).heap.size from hA7.size)
            have HA7 := hid hA7
            clear hA7
            go_wp2_with (first
              | (at_builtin
                 refine wpList_append_rowsV rfl (.tmp 46) (.tmp 51) 22 rfl wr.heap.size 36 i0 _ 9 72 Try.underlying22 HI.out HZ0.out HZ1.out HZ2.out rfl (by decide) _ [] (ep.map Pt.row) rfl HO0.out ea en ec HL7.out rfl HX7.out HWD.out HL8.out HL9.out HS7.out ?_
                 intro v7 W7 hown7 hg7 z5
                 clear z5
                 have HO7 := hid (show OwnP W7 wr.heap.size v7 ep from hown7)
                 have HB7 := hid (show Below wr.heap.size wr W7 from HA7.out.grown hg7 HS7.out (fun j hj => OwnR.ownBlock HO0.out j hj))
                 clear hown7 hg7
                 obtain ⟨va, vc, hvs⟩ := OwnP.slice HO7.out
                 rw [← HLE.out] at hvs
                 subst hvs
                 have c0 : W7.cell? ⟨g, i * 9, none⟩ = some (.int .i64 p0) := (HB7.out.cell HGQ.out).trans ((HBQ.out.cell hgs).trans (YP.out 0 (by decide)))
                 have c1 : W7.cell? ⟨g, i * 9 + 1, none⟩ = some (.int .i64 p1) := (HB7.out.cell HGQ.out).trans ((HBQ.out.cell hgs).trans (YP.out 1 (by decide)))
                 have c2 : W7.cell? ⟨g, i * 9 + 2, none⟩ = some (.int .i64 p2) := (HB7.out.cell HGQ.out).trans ((HBQ.out.cell hgs).trans (YP.out 2 (by decide)))
                 have c3 : W7.cell? ⟨g, i * 9 + 3, none⟩ = some (.int .i64 p3) := (HB7.out.cell HGQ.out).trans ((HBQ.out.cell hgs).trans (YP.out 3 (by decide)))
                 have c4 : W7.cell? ⟨g, i * 9 + 4, none⟩ = some (.int .i64 p4) := (HB7.out.cell HGQ.out).trans ((HBQ.out.cell hgs).trans (YP.out 4 (by decide)))
                 have c5 : W7.cell? ⟨g, i * 9 + 5, none⟩ = some (.int .i64 p5) := (HB7.out.cell HGQ.out).trans ((HBQ.out.cell hgs).trans (YP.out 5 (by decide)))
                 have c6 : W7.cell? ⟨g, i * 9 + 6, none⟩ = some (.int .i64 p6) := (HB7.out.cell HGQ.out).trans ((HBQ.out.cell hgs).trans (YP.out 6 (by decide)))
                 have c7 : W7.cell? ⟨g, i * 9 + 7, none⟩ = some (.int .i64 p7) := (HB7.out.cell HGQ.out).trans ((HBQ.out.cell hgs).trans (YP.out 7 (by decide)))
                 have c8 : W7.cell? ⟨g, i * 9 + 8, none⟩ = some (.int .i64 p8) := (HB7.out.cell HGQ.out).trans ((HBQ.out.cell hgs).trans (YP.out 8 (by decide)))
                 have HA8 := hid (show Below W7.heap.size W7 (W7.alloc (.cells #[.int .i64 p0, .int .i64 p1, .int .i64 p2, .int .i64 p3, .int .i64 p4, .int .i64 p5, .int .i64 p6, .int .i64 p7, .int .i64 p8] 36)) from (Below.refl _ _).alloc (Nat.le_refl _) _)
                 have HO8 := hid (OwnR.grow' HO7.out HA8.out)
                 have HRW := hid (show RowsAt (W7.alloc (.cells #[.int .i64 p0, .int .i64 p1, .int .i64 p2, .int .i64 p3, .int .i64 p4, .int .i64 p5, .int .i64 p6, .int .i64 p7, .int .i64 p8] 36)) W7.heap.size 0 9 [[.int .i64 p0, .int .i64 p1, .int .i64 p2, .int .i64 p3, .int .i64 p4, .int .i64 p5, .int .i64 p6, .int .i64 p7, .int .i64 p8]] from RowsAt.one (heap_alloc_at _ _ _ rfl))
                 have HM8 := hid (show (ep.map Pt.row).length + 1 ≤ maxLen by rw [← HL7.out]; have := HEN.out; unfold maxLen; omega)
                 have HM9 := hid (show ((ep.map Pt.row).length + 1) * 72 ≤ 140737488355328 by rw [← HL7.out]; have := HEN.out; omega)
                 have HS8 := hid (show wr.heap.size ≤ (W7.alloc (.cells #[.int .i64 p0, .int .i64 p1, .int .i64 p2, .int .i64 p3, .int .i64 p4, .int .i64 p5, .int .i64 p6, .int .i64 p7, .int .i64 p8] 36)).heap.size from Nat.le_trans HB7.out.size HA8.out.size))
              | (at_builtin
                 refine wpList_append_rows rfl (.tmp 55) (.tmp 60) 22 rfl wr.heap.size 36 i0 _ 9 72 Try.underlying22 HI.out HZ0.out HZ1.out HZ2.out rfl (by decide) (.slice va en vc) _ [[.int .i64 p0, .int .i64 p1, .int .i64 p2, .int .i64 p3, .int .i64 p4, .int .i64 p5, .int .i64 p6, .int .i64 p7, .int .i64 p8]] rfl HO8.out W7.heap.size 0 1 1 rfl rfl HRW.out (wide9 _ _ _ _ _ _ _ _ _) HM8.out HM9.out HS8.out ?_
                 intro v8 W8 hown8 hg8 z5
                 clear z5 c0 c1 c2 c3 c4 c5 c6 c7 c8
                 have HO9 := hid (show OwnP W8 W2.heap.size v8 (ep ++ [⟨p0, p1, p2, p3, p4, p5, p6, p7, p8⟩]) from by
                   unfold OwnP
                   rw [List.map_append]
                   exact OwnR.mono hown8 hzq)
                 have HB8 := hid (show Below wr.heap.size wr W8 from (HB7.out.trans (HA8.out.mono HB7.out.size)).grown hg8 HS8.out (fun j hj => OwnR.ownBlock HO8.out j hj))
                 clear hown8 hg8
                 have HOC8 := hid (heap_still HB8.out HOC.out)
                 obtain ⟨ua, uc, hus⟩ := OwnP.slice HO9.out
                 obtain ⟨un, hun⟩ : ∃ un, un = (ep ++ [(⟨p0, p1, p2, p3, p4, p5, p6, p7, p8⟩ : Pt)]).length := ⟨_, rfl⟩
                 rw [← hun] at hus
                 clear hun
                 subst hus)
              | (refine pt_store1 rfl 22 (.tmp 63) (.tmp 61) rfl go (q * 5 + 4) _ rfl rfl rfl rfl HOC8.out size22 (by have := HOS.out; omega) ?_))
            have HT9 := hid (tiles_set HTQ.out HB8.out HE.out HOC8.out HO9.out)
            have HK9 := hid (((turned_row W8 go (ptL ocur (q * 5 + 4) [.slice ua un uc])).block g9 (Array.getElem?_eq_some_iff.1 (heap_still HB8.out HKQ.out)).1 hgk).trans (heap_still HB8.out HKQ.out))
            have HB9 := hid (below_row (X := ptL ocur (q * 5 + 4) [.slice ua un uc]) (HBQ.out.trans (HB8.out.mono hzq)) hoB)
            exact ⟨⟨q + 1, true, _, by omega, by go_num, rfl, HT9.out, HK9.out, HFIN.out _, HB9.out⟩, by simp [intOf]; omega⟩
          · have heq := HKE.out false (decide_eq_false hke).symm
            go_wp2_with fail
            refine wp_region_quiet_below (by kernel_rfl) (by kernel_rfl) ?_
            repeat (first | go_big_quiet_step (fail) | quiet_step (fail))
            refine wpQuiet_nil ?_
            intro _ hw'
            obtain ⟨⟨dqV, osV⟩, hw2⟩ := hw'
            subst hw2
            have HQV := hid (below_regrown wr dqV osV)
            generalize Sort.grow (redrawn wr dqV) osV = V at HQV ⊢
            have hsV := HQV.out.size
            clear a0 a1 a2 a3 b0 b1 b2 b3 heq
            go_wp2_with fail
            exact ⟨⟨q + 1, f, E', by omega, by go_num, rfl, HTQ.out.grow HQV.out, heap_still HQV.out HKQ.out, found_pass HFO.out HE.out hke, HBQ.out.trans (HQV.out.mono hzq)⟩, by simp [intOf]; omega⟩
        · obtain rfl : q = m := by omega
          have d2 : decide ((q : Int) < (q : Int)) = false := by simp
          have hwn : ∀ e ∈ E, e.ok ∧ e.pts.length ≤ i := HKS.out
          cases f
          · have HNO := hid (show E' = E ∧ ∀ e ∈ E, e.key ≠ k from by
              rcases HFO.out with ⟨_, h1, h2⟩ | ⟨h1, _⟩
              · refine ⟨h1, fun e he => ?_⟩
                obtain ⟨a, ha, rfl⟩ := List.mem_iff_getElem.1 he
                exact h2 a _ (by rw [HM.out]; exact ha) (List.getElem?_eq_getElem ha)
              · cases h1)
            obtain ⟨rfl, hno⟩ := HNO.out
            clear HNO
            have HNO := hid hno
            clear hno hwn
            have YPQ := hid (fun j hj => (HBQ.out.cell hgs).trans (YP.out j hj))
            have HGQ := hid (Nat.lt_of_lt_of_le hgs hzq)
            have HA0 := hid (Below.refl wr.heap.size wr)
            go_wp2_with fail
            refine gen_act (fun A0 hA => ?_)
            refine wp_region_tailU (by kernel_rfl) (by kernel_rfl) [some 67, some 68, some 69, some 70, some 71, some 72, some 73, some 74, some 75, some 76, some 7] rfl (by decide) 9 (by decide) (by kernel_rfl) (by kernel_rfl)
              [IsV (.slice oa q oc), IsV (.agg #[.int .i64 k.L, .int .i64 k.x, .int .i64 k.y, .int .i64 k.z]), IsV (.slice (some ⟨g, 0, none⟩) n lc), IsV (.int .i64 (i : Int)), IsV (.pointer (some ⟨g, i * 9, none⟩)), IsV (.agg #[.int .i64 p0, .int .i64 p1, .int .i64 p2, .int .i64 p3, .int .i64 p4, .int .i64 p5, .int .i64 p6, .int .i64 p7, .int .i64 p8]), Fresh36 wr.heap.size #[.int .i64 p0, .int .i64 p1, .int .i64 p2, .int .i64 p3, .int .i64 p4, .int .i64 p5, .int .i64 p6, .int .i64 p7, .int .i64 p8], FreshT wr.heap.size #[.int .i64 p0, .int .i64 p1, .int .i64 p2, .int .i64 p3, .int .i64 p4, .int .i64 p5, .int .i64 p6, .int .i64 p7, .int .i64 p8] k, FreshE wr.heap.size #[.int .i64 p0, .int .i64 p1, .int .i64 p2, .int .i64 p3, .int .i64 p4, .int .i64 p5, .int .i64 p6, .int .i64 p7, .int .i64 p8] k]
              ⟨IsV.stb _, IsV.stb _, IsV.stb _, IsV.stb _, IsV.stb _, IsV.stb _, Fresh36.stb _ _, FreshT.stb _ _ _, FreshE.stb _ _ _, trivial⟩ ?hs1_18_W7 ?hend_18_W7
            case hs1_18_W7 =>
              refine ⟨?_, ?_, ?_, ?_, ?_, ?_, ?_, ?_, ?_, trivial⟩
              · intro K us W hK0 hB hd
                have hK := hid hK0; clear hK0
                intro hu
                have HBW := hid hB
                have hsW := hB.size
                have GB := hid (HA0.out.trans (hB.mono HA0.out.size))
                have e10 : us 10 = .slice oa q oc := (hu 10 (by decide)).trans (by rw [hA]; kernel_rfl)
                clear hd hu
                simp only [putF]
                rw [hA, e10]
                go_frame
                go_wp2_with fail
                exact hK.out _ _ _ (by rw [hA]; simp only [putF]; rw [e10]; kernel_rfl) (Below.refl _ _) rfl
              · intro K us W hK0 hB hd
                have hK := hid hK0; clear hK0
                intro hu
                have HBW := hid hB
                have hsW := hB.size
                have GB := hid (HA0.out.trans (hB.mono HA0.out.size))
                clear hd hu
                have G0 := hid (heap_still hB HKQ.out)
                have c0 : W.cell? ⟨g9, 0, none⟩ = some (.int .i64 k.L) := (cell_row (j := 0) G0.out).trans rfl
                have c1 : W.cell? ⟨g9, 1, none⟩ = some (.int .i64 k.x) := (cell_row (j := 1) G0.out).trans rfl
                have c2 : W.cell? ⟨g9, 2, none⟩ = some (.int .i64 k.y) := (cell_row (j := 2) G0.out).trans rfl
                have c3 : W.cell? ⟨g9, 3, none⟩ = some (.int .i64 k.z) := (cell_row (j := 3) G0.out).trans rfl
                simp only [putF]
                rw [hA]
                go_frame
                go_wp2_with fail
                exact hK.out _ _ _ (by rw [hA]; simp only [putF]; kernel_rfl) (Below.refl _ _) rfl
              · intro K us W hK0 hB hd
                have hK := hid hK0; clear hK0
                intro hu
                have HBW := hid hB
                have hsW := hB.size
                have GB := hid (HA0.out.trans (hB.mono HA0.out.size))
                clear hd hu
                simp only [putF]
                rw [hA]
                go_frame
                go_wp2_with fail
                exact hK.out _ _ _ (by rw [hA]; simp only [putF]; kernel_rfl) (Below.refl _ _) rfl
              · intro K us W hK0 hB hd
                have hK := hid hK0; clear hK0
                intro hu
                have HBW := hid hB
                have hsW := hB.size
                have GB := hid (HA0.out.trans (hB.mono HA0.out.size))
                clear hd hu
                simp only [putF]
                rw [hA]
                go_frame
                go_wp2_with fail
                exact hK.out _ _ _ (by rw [hA]; simp only [putF]; kernel_rfl) (Below.refl _ _) rfl
              · intro K us W hK0 hB hd
                have hK := hid hK0; clear hK0
                intro hu
                have HBW := hid hB
                have hsW := hB.size
                have GB := hid (HA0.out.trans (hB.mono HA0.out.size))
                have e2 : us 2 = .slice (some ⟨g, 0, none⟩) n lc := hd ⟨2, Ground.data⟩ (by simp) rfl
                have e3 : us 3 = .int .i64 (i : Int) := hd ⟨3, Ground.data⟩ (by simp) rfl
                clear hd hu
                simp only [putF]
                rw [hA, e2, e3]
                go_frame
                go_wp2_with fail
                exact hK.out _ _ _ (by rw [hA]; simp only [putF]; rw [e2, e3]; kernel_rfl) (Below.refl _ _) rfl
              · intro K us W hK0 hB hd
                have hK := hid hK0; clear hK0
                intro hu
                have HBW := hid hB
                have hsW := hB.size
                have GB := hid (HA0.out.trans (hB.mono HA0.out.size))
                have e4 : us 4 = .pointer (some ⟨g, i * 9, none⟩) := hd ⟨4, Ground.data⟩ (by simp) rfl
                clear hd hu
                have c0 : W.cell? ⟨g, i * 9, none⟩ = some (.int .i64 p0) := by rw [hB.cell HGQ.out]; exact YPQ.out 0 (by decide)
                have c1 : W.cell? ⟨g, i * 9 + 1, none⟩ = some (.int .i64 p1) := by rw [hB.cell HGQ.out]; exact YPQ.out 1 (by decide)
                have c2 : W.cell? ⟨g, i * 9 + 2, none⟩ = some (.int .i64 p2) := by rw [hB.cell HGQ.out]; exact YPQ.out 2 (by decide)
                have c3 : W.cell? ⟨g, i * 9 + 3, none⟩ = some (.int .i64 p3) := by rw [hB.cell HGQ.out]; exact YPQ.out 3 (by decide)
                have c4 : W.cell? ⟨g, i * 9 + 4, none⟩ = some (.int .i64 p4) := by rw [hB.cell HGQ.out]; exact YPQ.out 4 (by decide)
                have c5 : W.cell? ⟨g, i * 9 + 5, none⟩ = some (.int .i64 p5) := by rw [hB.cell HGQ.out]; exact YPQ.out 5 (by decide)
                have c6 : W.cell? ⟨g, i * 9 + 6, none⟩ = some (.int .i64 p6) := by rw [hB.cell HGQ.out]; exact YPQ.out 6 (by decide)
                have c7 : W.cell? ⟨g, i * 9 + 7, none⟩ = some (.int .i64 p7) := by rw [hB.cell HGQ.out]; exact YPQ.out 7 (by decide)
                have c8 : W.cell? ⟨g, i * 9 + 8, none⟩ = some (.int .i64 p8) := by rw [hB.cell HGQ.out]; exact YPQ.out 8 (by decide)
                simp only [putF]
                rw [hA, e4]
                go_frame
                go_wp2_with fail
                exact hK.out _ _ _ (by rw [hA]; simp only [putF]; rw [e4]; kernel_rfl) (Below.refl _ _) rfl
              · intro K us W hK0 hB hd
                have hK := hid hK0; clear hK0
                intro hu
                have HBW := hid hB
                have hsW := hB.size
                have GB := hid (HA0.out.trans (hB.mono HA0.out.size))
                have e5 : us 5 = .agg #[.int .i64 p0, .int .i64 p1, .int .i64 p2, .int .i64 p3, .int .i64 p4, .int .i64 p5, .int .i64 p6, .int .i64 p7, .int .i64 p8] := hd ⟨5, Ground.data⟩ (by simp) rfl
                clear hd hu
                simp only [putF]
                rw [hA, e5]
                go_frame
                go_wp2_with fail
                exact hK.out _ _ _ (by rw [hA]; simp only [putF]; rw [e5]; kernel_rfl) ((Below.refl _ _).alloc (Nat.le_refl _) _) (⟨_, rfl, hsW, heap_alloc_at _ _ _ rfl⟩)
              · intro K us W hK0 hB hd
                have hK := hid hK0; clear hK0
                intro hu
                have HBW := hid hB
                have hsW := hB.size
                have GB := hid (HA0.out.trans (hB.mono HA0.out.size))
                have e1 : us 1 = .agg #[.int .i64 k.L, .int .i64 k.x, .int .i64 k.y, .int .i64 k.z] := hd ⟨1, Ground.data⟩ (by simp) rfl
                have hd6 : (Fresh36 wr.heap.size #[.int .i64 p0, .int .i64 p1, .int .i64 p2, .int .i64 p3, .int .i64 p4, .int .i64 p5, .int .i64 p6, .int .i64 p7, .int .i64 p8]) W (us 6) := hd ⟨6, Ground.data⟩ (by simp) rfl
                obtain ⟨g6, e6, hg6, hh6⟩ := hd6
                clear hd hu
                simp only [putF]
                rw [hA, e1, e6]
                go_frame
                go_wp2_with fail
                exact hK.out _ _ _ (by rw [hA]; simp only [putF]; rw [e1, e6]; kernel_rfl) (Below.refl _ _) (⟨_, rfl, hg6, hh6⟩)
              · intro K us W hK0 hB hd
                have hK := hid hK0; clear hK0
                intro hu
                have HBW := hid hB
                have hsW := hB.size
                have GB := hid (HA0.out.trans (hB.mono HA0.out.size))
                have hd7 : (FreshT wr.heap.size #[.int .i64 p0, .int .i64 p1, .int .i64 p2, .int .i64 p3, .int .i64 p4, .int .i64 p5, .int .i64 p6, .int .i64 p7, .int .i64 p8] k) W (us 7) := hd ⟨7, Ground.data⟩ (by simp) rfl
                obtain ⟨g7, e7, hg7, hh7⟩ := hd7
                clear hd hu
                simp only [putF]
                rw [hA, e7]
                go_frame
                go_wp2_with fail
                exact hK.out _ _ _ (by rw [hA]; simp only [putF]; rw [e7]; kernel_rfl) ((Below.refl _ _).alloc (Nat.le_refl _) _) (⟨_, rfl, hsW, g7, hg7, heap_alloc_at _ _ _ rfl, heap_alloc_past _ _ _ _ hh7⟩)
            intro us W7 hB hp
            have e0 : us 0 = .slice oa q oc := hp 0 (by decide)
            have hd8 : (FreshE wr.heap.size #[.int .i64 p0, .int .i64 p1, .int .i64 p2, .int .i64 p3, .int .i64 p4, .int .i64 p5, .int .i64 p6, .int .i64 p7, .int .i64 p8] k) W7 (us 8) := hp 8 (by decide)
            obtain ⟨g8, e8, hg8, hh8⟩ := hd8
            have HB7 := hid (HA0.out.trans (hB.mono HA0.out.size))
            have HSW7 := hid (fun n x => @heap_still _ _ n x hB)
            have hzW7 := hB.size
            have hbW7 := hid hB
            clear hp
            clear hB
            simp only [putF]
            rw [hA, e0, e8]
            clear hA e0 e8
            go_frame
            obtain ⟨gp, hgp, ht8, hp8⟩ := hh8
            have HTW := hid (HTQ.out.grow hbW7.out)
            have HP8 := hid hp8
            have HGP := hid (Nat.le_trans hzq hgp)
            have HL4 := hid (show (E'.map Te.row).length + 1 ≤ maxLen by rw [List.length_map, ← HM.out]; unfold maxLen; omega)
            have HL5 := hid (show ((E'.map Te.row).length + 1) * 56 ≤ 140737488355328 by rw [List.length_map, ← HM.out]; omega)
            have HS7 := hid (Nat.le_trans hzq hbW7.out.size)
            have HRW := hid (show RowsAt W7 g8 0 5 [Te.row ⟨k, .slice (some ⟨gp, 0, none⟩) 1 1, [⟨p0, p1, p2, p3, p4, p5, p6, p7, p8⟩]⟩] from RowsAt.one ht8)
            refine seq_step rfl ?_
            intro K hK0
            have hK := hid hK0
            clear hK0
            refine wpList_append_rows rfl (.tmp 67) (.tmp 75) 24 rfl W2.heap.size 49 i1 _ 5 56 Try.underlying24 JI.out JZ0.out JZ1.out JZ2.out rfl (by decide) (.slice oa q oc) _ [Te.row ⟨k, .slice (some ⟨gp, 0, none⟩) 1 1, [⟨p0, p1, p2, p3, p4, p5, p6, p7, p8⟩]⟩] rfl HTW.out.1 g8 0 1 1 rfl rfl HRW.out (wide5 _ _ _ _ _ _ _) HL4.out HL5.out HS7.out ?_
            intro v9 W9 hown9 hgr9 halt9
            have HT9 := hid (tiles_new HTW.out HP8.out HGP.out hown9 hgr9)
            have HB9 := hid (show Below W2.heap.size W2 W9 from (HBQ.out.trans (hbW7.out.mono hzq)).grown hgr9 HS7.out (fun j hj => OwnR.ownBlock HTW.out.1 j hj))
            clear hown9 hgr9 halt9 ht8 hp8
            go_wp2_with fail
            refine hK.out v9 _ _ (by kernel_rfl) ?_
            clear hK
            refine seq_step rfl ?_
            intro K hK0
            have hK := hid hK0
            clear hK0
            try go_frame
            go_wp2_with fail
            refine hK.out v9 _ _ (by kernel_rfl) ?_
            clear hK
            refine seq_end rfl ?_
            go_wp2_with fail
            refine ⟨⟨i + 1, _, by omega, by go_num, HT9.out, lay_new HTL.out HPI.out HAT.out HNO.out, fun e he => ?_, by rw [List.length_append, ← HM.out]; show q + 1 ≤ _; omega, HB9.out⟩, by simp [intOf]; omega⟩
            rcases List.mem_append.1 he with q1 | q1
            · exact ⟨(HKS.out e q1).1, Nat.le_succ_of_le (HKS.out e q1).2⟩
            · obtain rfl := List.mem_singleton.1 q1
              exact ⟨⟨HSM.out, rfl⟩, by show 1 ≤ i + 1; omega⟩
          · have HNX := hid (show ∃ (a : Nat) (e : Te) (v : Value), E[a]? = some e ∧ e.key = k ∧ E' = E.set a ⟨e.key, v, e.pts ++ [⟨p0, p1, p2, p3, p4, p5, p6, p7, p8⟩]⟩ from by
              rcases HFO.out with ⟨h1, _⟩ | ⟨_, a, e, v, _, h2, h3, h4⟩
              · cases h1
              · exact ⟨a, e, v, h2, h3, h4⟩)
            clear hwn
            go_wp2_with fail
            obtain ⟨a, e, v, h2, h3, h4⟩ := HNX.out
            refine ⟨⟨i + 1, E', by omega, by go_num, HTQ.out, h4 ▸ lay_more HTL.out HPI.out HAT.out HAS.out h2 h3, fun f hf => ?_, by rw [h4, List.length_set, ← HM.out]; omega, HBQ.out⟩, by simp [intOf]; omega⟩
            have hown := HTQ.out.2 f hf
            rw [h4] at hf
            rcases List.mem_or_eq_of_mem_set hf with q1 | q1
            · exact ⟨(HKS.out f q1).1, Nat.le_succ_of_le (HKS.out f q1).2⟩
            · have h5 := HKS.out e (List.mem_of_getElem? h2)
              obtain ⟨za, zc, hz⟩ := hown.slice
              refine ⟨⟨by rw [q1]; exact h5.1.1, by rw [hz]; rfl⟩, ?_⟩
              rw [q1, List.length_append]
              show e.pts.length + 1 ≤ i + 1
              have := h5.2
              omega
    · obtain rfl : i = n := by omega
      have d1 : decide ((i : Int) < (i : Int)) = false := by simp
      have HALL := hid (show Tiles (fun p k => p ∈ S ∧ isAt S c p k) (E.map Te.tl) from HTL.out.congr (fun p k => by
        unfold QL
        rw [← HLN.out, List.take_length, HPM.out.mem_iff, isAt_perm HPM.out]))
      go_wp2_with fail
      go_loopw [80] (fun iv W => TOut W2 E m (.slice oa m oc) iv W) (fun iv _ => m - (intOf iv).toNat)
      case atStart => exact ⟨0, E, by omega, rfl, List.Perm.refl _, fun a b x y _ h => by omega, HTE.out, HBX.out⟩
      case round =>
        obtain ⟨j, Fo, hj, rfl, hpm, hst, hto, hB⟩ := hrel
        have HPF := hid hpm
        have HST := hid hst
        have HTO := hid hto
        have HBO := hid hB
        clear hpm hst hto hB
        by_cases hlt2 : j < m
        · have d2 : decide ((j : Int) < (m : Int)) = true := decide_eq_true (by omega)
          go_wp2_with fail
          go_loopw [14] (fun kv W => TInn W2 E j (.slice oa m oc) kv W) (fun kv _ => (intOf kv).toNat)
          case atStart => exact ⟨j, Fo, by omega, rfl, HPF.out, ins_start HST.out, HTO.out, HBO.out⟩
          case round =>
            obtain ⟨k, Fk, hk, rfl, hpm, hin, hto, hB⟩ := hrel
            have HPK := hid hpm
            have HIN := hid hin
            have HTK := hid hto
            have HBK := hid hB
            have hzk := hB.size
            clear hpm hin hto hB
            have hLn : Fk.length = m := by rw [HPK.out.length_eq]; exact HM.out.symm
            by_cases hk0 : k = 0
            · subst hk0
              go_wp2_with fail
              refine wp_region_quiet_below (by kernel_rfl) (by kernel_rfl) ?_
              repeat (first | go_big_quiet_step (fail) | quiet_step (fail))
              refine wpQuiet_nil ?_
              intro _ hw'
              obtain ⟨⟨dqV, osV⟩, hw2⟩ := hw'
              subst hw2
              have HQV := hid (below_regrown wr dqV osV)
              generalize Sort.grow (redrawn wr dqV) osV = V at HQV ⊢
              have hsV := HQV.out.size
              go_wp2_with fail
              exact ⟨⟨j + 1, Fk, by omega, by go_num, HPK.out, ins_end (r := kLt) (k := 0) (fun x y z h1 h2 => Ky.not_lt_trans h2 h1) HIN.out (Nat.zero_le _) (fun x y h => by omega), HTK.out.grow HQV.out, HBK.out.trans (HQV.out.mono hzk)⟩, by simp [intOf]; omega⟩
            · obtain ⟨p, hp⟩ : ∃ p, Fk[k]? = some p := ⟨_, List.getElem?_eq_getElem (by omega)⟩
              obtain ⟨q, hq⟩ : ∃ q, Fk[k - 1]? = some q := ⟨_, List.getElem?_eq_getElem (by omega)⟩
              obtain ⟨g, oc', ocur, hos, hgb, hoc, hor, hocap, _, hocs⟩ := OwnR.rows HTK.out.1 (by rw [List.length_map]; omega)
              obtain ⟨rfl, rfl⟩ : oa = some ⟨g, 0, none⟩ ∧ oc = oc' := by
                injection hos with e1 e2 e3
                exact ⟨e1, e3⟩
              have hcp : ∀ e, e < 5 → wr.cell? ⟨g, k * 5 + e, none⟩ = p.row[e]? := fun e he => by
                have := hor k p.row (by rw [List.getElem?_map, hp]; rfl) e he
                rw [Nat.zero_add] at this
                exact this
              have hcq : ∀ e, e < 5 → wr.cell? ⟨g, (k - 1) * 5 + e, none⟩ = q.row[e]? := fun e he => by
                have := hor (k - 1) q.row (by rw [List.getElem?_map, hq]; rfl) e he
                rw [Nat.zero_add] at this
                exact this
              have HPX := hid hp
              have HQY := hid hq
              have HOKP := hid (show p.ok from (HKS.out p (HPK.out.mem_iff.1 (List.mem_of_getElem? hp))).1)
              have HOKQ := hid (show q.ok from (HKS.out q (HPK.out.mem_iff.1 (List.mem_of_getElem? hq))).1)
              obtain ⟨pa, pc, hpv⟩ := (HTK.out.2 p (List.mem_of_getElem? hp)).slice
              obtain ⟨qa, qc, hqv⟩ := (HTK.out.2 q (List.mem_of_getElem? hq)).slice
              have HPV := hid hpv
              have HQW := hid hqv
              have hCn : m * 5 ≤ ocur.size := by
                rw [hocs]
                rw [List.length_map, hLn] at hocap
                exact Nat.mul_le_mul_right 5 hocap
              have HOC := hid hoc
              clear hos hor hocap hocs hp hq hpv hqv hoc hLn
              obtain ⟨⟨p0, p1, p2, p3⟩, pv, pl⟩ := p
              obtain ⟨⟨q0, q1, q2, q3⟩, qv, ql⟩ := q
              obtain rfl : pv = .slice pa pl.length pc := HPV.out
              obtain rfl : qv = .slice qa ql.length qc := HQW.out
              obtain ⟨pn, hpn⟩ : ∃ pn, pn = pl.length := ⟨_, rfl⟩
              obtain ⟨qn, hqn⟩ : ∃ qn, qn = ql.length := ⟨_, rfl⟩
              simp only [Te.row, Ky.row, ← hpn, ← hqn] at hcp hcq
              simp only [← hpn, ← hqn] at HPX HQY HOKP HOKQ
              have a0 := fun d os => cell_regrown (show wr.cell? ⟨g, k * 5, none⟩ = some (.int .i64 p0) from hcp 0 (by decide)) d os
              have a1 := fun d os => cell_regrown (show wr.cell? ⟨g, k * 5 + 1, none⟩ = some (.int .i64 p1) from hcp 1 (by decide)) d os
              have a2 := fun d os => cell_regrown (show wr.cell? ⟨g, k * 5 + 2, none⟩ = some (.int .i64 p2) from hcp 2 (by decide)) d os
              have a3 := fun d os => cell_regrown (show wr.cell? ⟨g, k * 5 + 3, none⟩ = some (.int .i64 p3) from hcp 3 (by decide)) d os
              have b0 := fun d os => cell_regrown (show wr.cell? ⟨g, (k - 1) * 5, none⟩ = some (.int .i64 q0) from hcq 0 (by decide)) d os
              have b1 := fun d os => cell_regrown (show wr.cell? ⟨g, (k - 1) * 5 + 1, none⟩ = some (.int .i64 q1) from hcq 1 (by decide)) d os
              have b2 := fun d os => cell_regrown (show wr.cell? ⟨g, (k - 1) * 5 + 2, none⟩ = some (.int .i64 q2) from hcq 2 (by decide)) d os
              have b3 := fun d os => cell_regrown (show wr.cell? ⟨g, (k - 1) * 5 + 3, none⟩ = some (.int .i64 q3) from hcq 3 (by decide)) d os
              have YP := hid hcp
              have YQ := hid hcq
              have hg0 : decide ((0 : Int) < (k : Int)) = true := decide_eq_true (by omega)
              have hg1 : 0 < k := by omega
              clear hcp hcq hpn hqn
              by_cases hlt3 : (⟨p0, p1, p2, p3⟩ : Ky).lt ⟨q0, q1, q2, q3⟩
              · have HBF := hid (show ∀ W, Calls Try.prog 57 #[.agg #[.int .i64 p0, .int .i64 p1, .int .i64 p2, .int .i64 p3], .agg #[.int .i64 q0, .int .i64 q1, .int .i64 q2, .int .i64 q3]] W fun r w' => r = .returned (.bool true) ∧ Below W.heap.size W w' from fun W => decide_eq_true hlt3 ▸ before_any ⟨p0, p1, p2, p3⟩ ⟨q0, q1, q2, q3⟩ W)
                have HLT := hid hlt3
                clear hlt3
                go_wp2_with fail
                refine wp_region_quiet_below (by kernel_rfl) (by kernel_rfl) ?_
                repeat (first | go_big_quiet_step ((go_at_call 57; with_reducible exact Calls.regrown_of (HBF.out _))) | quiet_step ((go_at_call 57; with_reducible exact Calls.regrown_of (HBF.out _))))
                refine wpQuiet_nil ?_
                intro _ hw'
                obtain ⟨⟨dqV, osV⟩, hw2⟩ := hw'
                subst hw2
                have HQV := hid (below_regrown wr dqV osV)
                generalize Sort.grow (redrawn wr dqV) osV = V at HQV ⊢
                have hsV := HQV.out.size
                have HTV := hid (HTK.out.grow HQV.out)
                have HBV := hid (HBK.out.trans (HQV.out.mono hzk))
                have YC := hid (heap_still HQV.out HOC.out)
                have hgw : g < wr.heap.size := (Array.getElem?_eq_some_iff.1 HOC.out).1
                have YPV := hid (fun e he => (HQV.out.cell hgw).trans (YP.out e he))
                have YQV := hid (fun e he => (HQV.out.cell hgw).trans (YQ.out e he))
                clear a0 a1 a2 a3 b0 b1 b2 b3
                go_wp2_with fail
                refine gen_act (fun A0 hA => ?_)
                refine wp_region_by (by kernel_rfl) (by kernel_rfl) [some 102, some 103, some 104, some 105, some 106, some 107, some 108, some 109, some 110, some 111, some 112, some 113, some 114, some 115, some 116, none, some 117, none] rfl (by decide) (TwoT V.drew (V.drew.setRow g (ptL ocur (k * 5) [.int .i64 q0, .int .i64 q1, .int .i64 q2, .int .i64 q3, .slice qa qn qc])) ((V.drew.setRow g (ptL ocur (k * 5) [.int .i64 q0, .int .i64 q1, .int .i64 q2, .int .i64 q3, .slice qa qn qc])).setRow g (ptL (ptL ocur (k * 5) [.int .i64 q0, .int .i64 q1, .int .i64 q2, .int .i64 q3, .slice qa qn qc]) ((k - 1) * 5) [.int .i64 p0, .int .i64 p1, .int .i64 p2, .int .i64 p3, .slice pa pn pc])) 15 17 [0, 1, 5, 6, 7, 8, 9, 13, 14] [.slice (some ⟨g, 0, none⟩) m oc, .int .i64 (k : Int), .slice (some ⟨g, 0, none⟩) m oc, .int .i64 (k : Int), .int .i64 ((k : Int) - 1), .slice (some ⟨g, 0, none⟩) m oc, .int .i64 (k : Int), .int .i64 ((k : Int) - 1), .pointer (some ⟨g, (k - 1) * 5, none⟩), .agg #[.int .i64 q0, .int .i64 q1, .int .i64 q2, .int .i64 q3, .slice qa qn qc], .slice (some ⟨g, 0, none⟩) m oc, .int .i64 (k : Int), .pointer (some ⟨g, k * 5, none⟩), .agg #[.int .i64 p0, .int .i64 p1, .int .i64 p2, .int .i64 p3, .slice pa pn pc], .pointer (some ⟨g, k * 5, none⟩), undef, .pointer (some ⟨g, (k - 1) * 5, none⟩), undef]) (selfF A0 _) (putF_self A0 _) TwoT.start ?hs1_26_W1 ?hend_26_W1
                case hs1_26_W1 =>
                  refine ⟨?_, ?_, ?_, ?_, ?_, ?_, ?_, ?_, ?_, ?_, ?_, ?_, ?_, ?_, ?_, ?_, ?_, ?_, trivial⟩
                  · intro K L us W hK0 hL hd hR
                    have hK := hid (fun v A' h1 h2 => hK0 v A' W h1 (hR.pure 0 (by decide) (by decide) h2)); clear hK0
                    (try simp [Region.binds] at hd)
                    clear hd hR
                    simp only [putF]
                    rw [hA]
                    go_frame
                    go_wp2_with fail
                    exact hK.out _ _ (by rw [hA]; simp only [putF]; kernel_rfl) rfl
                  · intro K L us W hK0 hL hd hR
                    have hK := hid (fun v A' h1 h2 => hK0 v A' W h1 (hR.pure 1 (by decide) (by decide) h2)); clear hK0
                    (try simp [Region.binds] at hd)
                    clear hd hR
                    simp only [putF]
                    rw [hA]
                    go_frame
                    go_wp2_with fail
                    exact hK.out _ _ (by rw [hA]; simp only [putF]; kernel_rfl) rfl
                  · intro K L us W hK0 hL hd hR
                    have hK := hid (fun v A' h1 h2 => hK0 v A' W h1 (hR.pure 2 (by decide) (by decide) h2)); clear hK0
                    (try simp [Region.binds] at hd)
                    clear hd hR
                    simp only [putF]
                    rw [hA]
                    go_frame
                    go_wp2_with fail
                    exact hK.out _ _ (by rw [hA]; simp only [putF]; kernel_rfl) rfl
                  · intro K L us W hK0 hL hd hR
                    have hK := hid (fun v A' h1 h2 => hK0 v A' W h1 (hR.pure 3 (by decide) (by decide) h2)); clear hK0
                    (try simp [Region.binds] at hd)
                    clear hd hR
                    simp only [putF]
                    rw [hA]
                    go_frame
                    go_wp2_with fail
                    exact hK.out _ _ (by rw [hA]; simp only [putF]; kernel_rfl) rfl
                  · intro K L us W hK0 hL hd hR
                    have hK := hid (fun v A' h1 h2 => hK0 v A' W h1 (hR.pure 4 (by decide) (by decide) h2)); clear hK0
                    (try simp [Region.binds] at hd)
                    have e3 : us 3 = .int .i64 (k : Int) := hR.vals 3 (by simp [hd]) (by decide) (by decide)
                    clear hd hR
                    simp only [putF]
                    rw [hA, e3]
                    go_frame
                    go_wp2_with fail
                    exact hK.out _ _ (by rw [hA]; simp only [putF]; rw [e3]; kernel_rfl) rfl
                  · intro K L us W hK0 hL hd hR
                    have hK := hid (fun v A' h1 h2 => hK0 v A' W h1 (hR.pure 5 (by decide) (by decide) h2)); clear hK0
                    (try simp [Region.binds] at hd)
                    clear hd hR
                    simp only [putF]
                    rw [hA]
                    go_frame
                    go_wp2_with fail
                    exact hK.out _ _ (by rw [hA]; simp only [putF]; kernel_rfl) rfl
                  · intro K L us W hK0 hL hd hR
                    have hK := hid (fun v A' h1 h2 => hK0 v A' W h1 (hR.pure 6 (by decide) (by decide) h2)); clear hK0
                    (try simp [Region.binds] at hd)
                    clear hd hR
                    simp only [putF]
                    rw [hA]
                    go_frame
                    go_wp2_with fail
                    exact hK.out _ _ (by rw [hA]; simp only [putF]; kernel_rfl) rfl
                  · intro K L us W hK0 hL hd hR
                    have hK := hid (fun v A' h1 h2 => hK0 v A' W h1 (hR.pure 7 (by decide) (by decide) h2)); clear hK0
                    (try simp [Region.binds] at hd)
                    have e6 : us 6 = .int .i64 (k : Int) := hR.vals 6 (by simp [hd]) (by decide) (by decide)
                    clear hd hR
                    simp only [putF]
                    rw [hA, e6]
                    go_frame
                    go_wp2_with fail
                    exact hK.out _ _ (by rw [hA]; simp only [putF]; rw [e6]; kernel_rfl) rfl
                  · intro K L us W hK0 hL hd hR
                    have hK := hid (fun v A' h1 h2 => hK0 v A' W h1 (hR.pure 8 (by decide) (by decide) h2)); clear hK0
                    (try simp [Region.binds] at hd)
                    have e5 : us 5 = .slice (some ⟨g, 0, none⟩) m oc := hR.vals 5 (by simp [hd]) (by decide) (by decide)
                    have e7 : us 7 = .int .i64 ((k : Int) - 1) := hR.vals 7 (by simp [hd]) (by decide) (by decide)
                    clear hd hR
                    simp only [putF]
                    rw [hA, e5, e7]
                    go_frame
                    go_wp2_with fail
                    exact hK.out _ _ (by rw [hA]; simp only [putF]; rw [e5, e7]; kernel_rfl) rfl
                  · intro K L us W hK0 hL hd hR
                    have hK := hid (fun v A' h1 h2 => hK0 v A' W h1 (hR.pure 9 (by decide) (by decide) h2)); clear hK0
                    (try simp [Region.binds] at hd)
                    have e8 : us 8 = .pointer (some ⟨g, (k - 1) * 5, none⟩) := hR.vals 8 (by simp [hd]) (by decide) (by decide)
                    have hW := hR.at0 (k := 9) (by decide) hL
                    clear hd hR
                    subst hW
                    have c0 : V.drew.cell? ⟨g, (k - 1) * 5, none⟩ = some (.int .i64 q0) := YQV.out 0 (by decide)
                    have c1 : V.drew.cell? ⟨g, (k - 1) * 5 + 1, none⟩ = some (.int .i64 q1) := YQV.out 1 (by decide)
                    have c2 : V.drew.cell? ⟨g, (k - 1) * 5 + 2, none⟩ = some (.int .i64 q2) := YQV.out 2 (by decide)
                    have c3 : V.drew.cell? ⟨g, (k - 1) * 5 + 3, none⟩ = some (.int .i64 q3) := YQV.out 3 (by decide)
                    have c4 : V.drew.cell? ⟨g, (k - 1) * 5 + 4, none⟩ = some (.slice qa qn qc) := YQV.out 4 (by decide)
                    simp only [putF]
                    rw [hA, e8]
                    go_frame
                    go_wp2_with fail
                    exact hK.out _ _ (by rw [hA]; simp only [putF]; rw [e8]; kernel_rfl) rfl
                  · intro K L us W hK0 hL hd hR
                    have hK := hid (fun v A' h1 h2 => hK0 v A' W h1 (hR.pure 10 (by decide) (by decide) h2)); clear hK0
                    (try simp [Region.binds] at hd)
                    clear hd hR
                    simp only [putF]
                    rw [hA]
                    go_frame
                    go_wp2_with fail
                    exact hK.out _ _ (by rw [hA]; simp only [putF]; kernel_rfl) rfl
                  · intro K L us W hK0 hL hd hR
                    have hK := hid (fun v A' h1 h2 => hK0 v A' W h1 (hR.pure 11 (by decide) (by decide) h2)); clear hK0
                    (try simp [Region.binds] at hd)
                    clear hd hR
                    simp only [putF]
                    rw [hA]
                    go_frame
                    go_wp2_with fail
                    exact hK.out _ _ (by rw [hA]; simp only [putF]; kernel_rfl) rfl
                  · intro K L us W hK0 hL hd hR
                    have hK := hid (fun v A' h1 h2 => hK0 v A' W h1 (hR.pure 12 (by decide) (by decide) h2)); clear hK0
                    (try simp [Region.binds] at hd)
                    have e10 : us 10 = .slice (some ⟨g, 0, none⟩) m oc := hR.vals 10 (by simp [hd]) (by decide) (by decide)
                    have e11 : us 11 = .int .i64 (k : Int) := hR.vals 11 (by simp [hd]) (by decide) (by decide)
                    clear hd hR
                    simp only [putF]
                    rw [hA, e10, e11]
                    go_frame
                    go_wp2_with fail
                    exact hK.out _ _ (by rw [hA]; simp only [putF]; rw [e10, e11]; kernel_rfl) rfl
                  · intro K L us W hK0 hL hd hR
                    have hK := hid (fun v A' h1 h2 => hK0 v A' W h1 (hR.pure 13 (by decide) (by decide) h2)); clear hK0
                    (try simp [Region.binds] at hd)
                    have e12 : us 12 = .pointer (some ⟨g, k * 5, none⟩) := hR.vals 12 (by simp [hd]) (by decide) (by decide)
                    have hW := hR.at0 (k := 13) (by decide) hL
                    clear hd hR
                    subst hW
                    have c0 : V.drew.cell? ⟨g, k * 5, none⟩ = some (.int .i64 p0) := YPV.out 0 (by decide)
                    have c1 : V.drew.cell? ⟨g, k * 5 + 1, none⟩ = some (.int .i64 p1) := YPV.out 1 (by decide)
                    have c2 : V.drew.cell? ⟨g, k * 5 + 2, none⟩ = some (.int .i64 p2) := YPV.out 2 (by decide)
                    have c3 : V.drew.cell? ⟨g, k * 5 + 3, none⟩ = some (.int .i64 p3) := YPV.out 3 (by decide)
                    have c4 : V.drew.cell? ⟨g, k * 5 + 4, none⟩ = some (.slice pa pn pc) := YPV.out 4 (by decide)
                    simp only [putF]
                    rw [hA, e12]
                    go_frame
                    go_wp2_with fail
                    exact hK.out _ _ (by rw [hA]; simp only [putF]; rw [e12]; kernel_rfl) rfl
                  · intro K L us W hK0 hL hd hR
                    have hK := hid (fun v A' h1 h2 => hK0 v A' W h1 (hR.pure 14 (by decide) (by decide) h2)); clear hK0
                    (try simp [Region.binds] at hd)
                    have e0 : us 0 = .slice (some ⟨g, 0, none⟩) m oc := hR.vals 0 (by simp [hd]) (by decide) (by decide)
                    have e1 : us 1 = .int .i64 (k : Int) := hR.vals 1 (by simp [hd]) (by decide) (by decide)
                    clear hd hR
                    simp only [putF]
                    rw [hA, e0, e1]
                    go_frame
                    go_wp2_with fail
                    exact hK.out _ _ (by rw [hA]; simp only [putF]; rw [e0, e1]; kernel_rfl) rfl
                  · intro K L us W hK0 hL hd hR
                    simp [Region.binds] at hd
                    have e14 : us 14 = .pointer (some ⟨g, k * 5, none⟩) := hR.vals 14 (by simp [hd]) (by decide) (by decide)
                    have e9 : us 9 = .agg #[.int .i64 q0, .int .i64 q1, .int .i64 q2, .int .i64 q3, .slice qa qn qc] := hR.vals 9 (by simp [hd]) (by decide) (by decide)
                    have hp : ∀ j ∈ [0, 1, 5, 6, 7, 8, 9, 13, 14], L j = true := by
                      intro j hj
                      simp only [List.mem_cons, List.not_mem_nil, or_false] at hj
                      rcases hj with rfl | rfl | rfl | rfl | rfl | rfl | rfl | rfl | rfl
                      all_goals (simp [hd])
                    have hW := (hR.fst (v := undef) hL hp (by decide)).1
                    have hK := hid (fun A' h1 => hK0 undef A' _ h1 (hR.fst hL hp (by decide)).2); clear hK0 hp
                    clear hd hR
                    subst hW
                    simp only [putF]
                    rw [hA, e14, e9]
                    go_frame
                    go_wp2_with (refine pt_store rfl 49 (.tmp 116) (.tmp 111) rfl g (k * 5) _ rfl rfl (show V.drew.heap[g]? = _ from YC.out) size49r rfl (by show k * 5 + 5 ≤ ocur.size; omega) rfl ?_)
                    exact hK.out _ (by rw [hA]; simp only [putF]; rw [e14, e9]; kernel_rfl)
                  · intro K L us W hK0 hL hd hR
                    have hK := hid (fun v A' h1 h2 => hK0 v A' W h1 (hR.pure 16 (by decide) (by decide) h2)); clear hK0
                    (try simp [Region.binds] at hd)
                    have e2 : us 2 = .slice (some ⟨g, 0, none⟩) m oc := hR.vals 2 (by simp [hd]) (by decide) (by decide)
                    have e4 : us 4 = .int .i64 ((k : Int) - 1) := hR.vals 4 (by simp [hd]) (by decide) (by decide)
                    clear hd hR
                    simp only [putF]
                    rw [hA, e2, e4]
                    go_frame
                    go_wp2_with fail
                    exact hK.out _ _ (by rw [hA]; simp only [putF]; rw [e2, e4]; kernel_rfl) rfl
                  · intro K L us W hK0 hL hd hR
                    simp [Region.binds] at hd
                    have e16 : us 16 = .pointer (some ⟨g, (k - 1) * 5, none⟩) := hR.vals 16 (by simp [hd]) (by decide) (by decide)
                    have e13 : us 13 = .agg #[.int .i64 p0, .int .i64 p1, .int .i64 p2, .int .i64 p3, .slice pa pn pc] := hR.vals 13 (by simp [hd]) (by decide) (by decide)
                    have h5 : L 15 = true := by simp [hd]
                    have hW := (hR.snd (v := undef) h5 hL).1
                    have hK := hid (fun A' h1 => hK0 undef A' _ h1 (hR.snd h5 hL).2); clear hK0
                    clear hd hR
                    subst hW
                    simp only [putF]
                    rw [hA, e16, e13]
                    go_frame
                    go_wp2_with (refine pt_store rfl 49 (.tmp 117) (.tmp 115) rfl g ((k - 1) * 5) _ rfl rfl (setRow_heap _ _ _ _ _ _ (show V.drew.heap[g]? = _ from YC.out)) size49r rfl (by show (k - 1) * 5 + 5 ≤ (ptL ocur (k * 5) _).size; rw [ptL_size]; omega) rfl ?_)
                    exact hK.out _ (by rw [hA]; simp only [putF]; rw [e16, e13]; kernel_rfl)
                intro L us W1 hL hR
                have hW : W1 = (V.drew.setRow g (ptL ocur (k * 5) [.int .i64 q0, .int .i64 q1, .int .i64 q2, .int .i64 q3, .slice qa qn qc])).setRow g (ptL (ptL ocur (k * 5) [.int .i64 q0, .int .i64 q1, .int .i64 q2, .int .i64 q3, .slice qa qn qc]) ((k - 1) * 5) [.int .i64 p0, .int .i64 p1, .int .i64 p2, .int .i64 p3, .slice pa pn pc]) := by have := hR.wld; rw [hL 17 (by decide)] at this; exact this
                clear hR hL
                simp only [putF]
                rw [hA]
                clear hA
                go_frame
                subst hW
                have HO5 := hid (tiles_swap (show TilesIn V.drew W2.heap.size (.slice (some ⟨g, 0, none⟩) m oc) Fk from ⟨OwnR.drew HTV.out.1, fun e he => OwnR.drew (HTV.out.2 e he)⟩) YC.out HOKP.out HOKQ.out HPX.out HQY.out)
                have HB5 := hid (fun X Y => below_row (X := Y) (below_row (X := X) (below_drew HBV.out) hgb) hgb)
                simp only [Te.row, Ky.row] at HO5
                have HP5 := hid ((sw_perm HPX.out HQY.out).trans HPK.out)
                have HI5 := hid (show InsAt kLt ((Fk.set k ⟨⟨q0, q1, q2, q3⟩, .slice qa qn qc, ql⟩).set (k - 1) ⟨⟨p0, p1, p2, p3⟩, .slice pa pn pc, pl⟩) j (k - 1) by
                  have e : k = (k - 1) + 1 := by omega
                  have h := ins_step (r := kLt) (k := k - 1) (x := ⟨⟨p0, p1, p2, p3⟩, .slice pa pn pc, pl⟩) (fun x y h h2 => Ky.lt_irrefl _ (Ky.lt_trans h h2)) (by rw [← e]; exact HIN.out) (by omega) (by rw [← e]; exact HPX.out) HQY.out HLT.out
                  rw [← e] at h
                  exact h)
                go_wp2_with fail
                exact ⟨⟨k - 1, _, by omega, by congr 1; omega, HP5.out, HI5.out, HO5.out, HB5.out _ _⟩, by simp [intOf]; omega⟩
              · have HBF := hid (show ∀ W, Calls Try.prog 57 #[.agg #[.int .i64 p0, .int .i64 p1, .int .i64 p2, .int .i64 p3], .agg #[.int .i64 q0, .int .i64 q1, .int .i64 q2, .int .i64 q3]] W fun r w' => r = .returned (.bool false) ∧ Below W.heap.size W w' from fun W => decide_eq_false hlt3 ▸ before_any ⟨p0, p1, p2, p3⟩ ⟨q0, q1, q2, q3⟩ W)
                go_wp2_with fail
                refine wp_region_quiet_below (by kernel_rfl) (by kernel_rfl) ?_
                repeat (first | go_big_quiet_step ((go_at_call 57; with_reducible exact Calls.regrown_of (HBF.out _))) | quiet_step ((go_at_call 57; with_reducible exact Calls.regrown_of (HBF.out _))))
                refine wpQuiet_nil ?_
                intro _ hw'
                obtain ⟨⟨dqV, osV⟩, hw2⟩ := hw'
                subst hw2
                have HQV := hid (below_regrown wr dqV osV)
                generalize Sort.grow (redrawn wr dqV) osV = V at HQV ⊢
                have hsV := HQV.out.size
                clear a0 a1 a2 a3 b0 b1 b2 b3
                go_wp2_with fail
                exact ⟨⟨j + 1, Fk, by omega, by go_num, HPK.out, ins_end (r := kLt) (k := k) (fun x y z h1 h2 => Ky.not_lt_trans h2 h1) HIN.out hk (fun x y _ h1 h2 => by
                  rw [HPX.out] at h1
                  rw [HQY.out] at h2
                  injection h1 with h1
                  injection h2 with h2
                  subst h1 h2
                  exact hlt3), HTK.out.grow HQV.out, HBK.out.trans (HQV.out.mono hzk)⟩, by simp [intOf]; omega⟩
        · obtain rfl : j = m := by omega
          have d2 : decide ((j : Int) < (j : Int)) = false := by simp
          go_wp2_with fail
          go_ret
          have h := HST.out
          rw [HM.out, ← HPF.out.length_eq] at h
          have h2 := HALL.out.perm (HPF.out.symm.map Te.tl)
          exact ⟨⟨_, Fo, rfl, HTO.out.tilesV, order_strict h2 (by rw [List.pairwise_map]; exact sortedTo_pairwise h), h2⟩, HB2.out.trans (HBO.out.mono HB2.out.size)⟩
end Go.Proofs.Yteanlcefdoigcaa
