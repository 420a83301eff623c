/- The reference's distinct (126): fixes each once, in the order of their times. (Printed by wip/gen_dst.py.) -/
import Derived.Test.YteoikaedpgianaaRFxS
namespace Go.Proofs.Yteoikaedpgianaa
open Go.RowKit Go.Sort Go.Lib Go.Shelf Go.Proofs

/-- two elements of a list change places -/
def swL {α : Type} (l : List α) (i j : Nat) : List α := match l[i]?, l[j]? with | some x, some y => (l.set i y).set j x | _, _ => l
theorem swL_some {α : Type} {l : List α} {i j : Nat} {x y : α} (hi : l[i]? = some x) (hj : l[j]? = some y) : swL l i j = (l.set i y).set j x := by
  unfold swL
  rw [hi, hj]
theorem swL_perm {α : Type} [Inhabited α] (l : List α) (i j : Nat) : (swL l i j).Perm l := by
  unfold swL
  split
  · rename_i x y hx hy
    obtain ⟨hi, ei⟩ := List.getElem?_eq_some_iff.1 hx
    obtain ⟨hj, ej⟩ := List.getElem?_eq_some_iff.1 hy
    have h := Go.Sort.swp_permIn l.toArray 0 l.toArray.size i j (Nat.zero_le _) (by simpa using hi) (Nat.zero_le _) (by simpa using hj) (Nat.le_refl _)
    have h2 := perm_list h
    have e : (Go.Sort.swp l.toArray i j).toList = (l.set i y).set j x := by
      unfold Go.Sort.swp
      rw [getElem!_pos l.toArray i (by simpa using hi), getElem!_pos l.toArray j (by simpa using hj)]
      simp [ei, ej]
    rw [e] at h2
    exact h2
  · exact List.Perm.refl _
section
variable {α : Type}
/-- the first i members stand in order -/
def SortedTo (r : α → α → Prop) (L : List α) (i : Nat) : Prop := ∀ a b x y, a < b → b < i → L[a]? = some x → L[b]? = some y → ¬ r y x
/-- the first i + 1 members stand in order, but for the one at k, which is no greater than those behind it -/
def InsAt (r : α → α → Prop) (L : List α) (i k : Nat) : Prop :=
  (∀ a b x y, a < b → b ≤ i → a ≠ k → b ≠ k → L[a]? = some x → L[b]? = some y → ¬ r y x) ∧ ∀ b x y, k < b → b ≤ i → L[k]? = some x → L[b]? = some y → ¬ r y x
theorem insT_start {r : α → α → Prop} {L : List α} {i : Nat} (h : SortedTo r L i) : InsAt r L i i :=
  ⟨fun a b x y h1 h2 h3 h4 => h a b x y h1 (by omega), fun b x y h1 h2 => by omega⟩
theorem insT_step {r : α → α → Prop} (asym : ∀ x y, r x y → ¬ r y x) {L : List α} {i k : Nat} {x y : α} (h : InsAt r L i (k + 1)) (hk : k + 1 ≤ i) (hx : L[k + 1]? = some x) (hy : L[k]? = some y) (hr : r x y) : InsAt r ((L.set (k + 1) y).set k x) i k := by
  have hl : k + 1 < L.length := (List.getElem?_eq_some_iff.1 hx).1
  have g0 : ((L.set (k + 1) y).set k x)[k]? = some x := List.getElem?_set_self (by simp; omega)
  have g1 : ((L.set (k + 1) y).set k x)[k + 1]? = some y := by
    rw [List.getElem?_set_ne (by omega)]
    exact List.getElem?_set_self hl
  have g2 : ∀ a, a ≠ k → a ≠ k + 1 → ((L.set (k + 1) y).set k x)[a]? = L[a]? := fun a h1 h2 => by
    rw [List.getElem?_set_ne (by omega), List.getElem?_set_ne (by omega)]
  constructor
  · intro a b u v hab hb ha1 hb1 hu hv
    by_cases ha : a = k + 1
    · subst ha
      rw [g1] at hu
      injection hu with hu
      subst hu
      rw [g2 b (by omega) (by omega)] at hv
      exact h.1 k b _ v (by omega) hb (by omega) (by omega) hy hv
    · rw [g2 a ha1 ha] at hu
      by_cases hbk : b = k + 1
      · subst hbk
        rw [g1] at hv
        injection hv with hv
        subst hv
        exact h.1 a k u _ (by omega) (by omega) (by omega) (by omega) hu hy
      · rw [g2 b hb1 hbk] at hv
        exact h.1 a b u v hab hb ha hbk hu hv
  · intro b u v hkb hb hu hv
    rw [g0] at hu
    injection hu with hu
    subst hu
    by_cases hbk : b = k + 1
    · subst hbk
      rw [g1] at hv
      injection hv with hv
      subst hv
      exact asym _ _ hr
    · rw [g2 b (by omega) hbk] at hv
      exact h.2 b _ v (by omega) hb hx hv
theorem insT_end {r : α → α → Prop} (ntr : ∀ x y z, ¬ r y x → ¬ r z y → ¬ r z x) {L : List α} {i k : Nat} (h : InsAt r L i k) (hk : k ≤ i) (he : ∀ x y, 0 < k → L[k]? = some x → L[k - 1]? = some y → ¬ r x y) : SortedTo r L (i + 1) := by
  intro a b x y hab hb hx hy
  by_cases ha : a = k
  · subst ha
    exact h.2 b x y hab (by omega) hx hy
  · by_cases hbk : b = k
    · subst hbk
      have hl : b < L.length := (List.getElem?_eq_some_iff.1 hy).1
      obtain ⟨z, hz⟩ : ∃ z, L[b - 1]? = some z := ⟨_, List.getElem?_eq_getElem (by omega)⟩
      have h1 := he y z (by omega) hy hz
      by_cases ha2 : a = b - 1
      · subst ha2
        rw [hz] at hx
        injection hx with hx
        subst hx
        exact h1
      · exact ntr x z y (h.1 a (b - 1) x z (by omega) (by omega) ha (by omega) hx hz) h1
    · exact h.1 a b x y hab (by omega) ha hbk hx hy
theorem sortedTo_pairwise {r : α → α → Prop} {L : List α} (h : SortedTo r L L.length) : L.Pairwise (fun x y => ¬ r y x) := by
  rw [List.pairwise_iff_getElem]
  intro i j hi hj hij
  exact h i j _ _ hij hj (List.getElem?_eq_getElem hi) (List.getElem?_eq_getElem hj)
theorem sw_perm [Inhabited α] {L : List α} {i j : Nat} {x y : α} (hi : L[i]? = some x) (hj : L[j]? = some y) : ((L.set i y).set j x).Perm L := swL_some hi hj ▸ swL_perm L i j
end
theorem own_swapF {W : World} {base g n cap x y : Nat} {C : Array Value} {L : List Fx} {p q : Fx} (h : OwnF W base (.slice (some ⟨g, 0, none⟩) n cap) L) (hC : W.heap[g]? = some (.cells C 55)) (hx : L[x]? = some p) (hy : L[y]? = some q) :
    OwnF ((W.setRow g (ptL C (x * 10) q.row)).setRow g (ptL (ptL C (x * 10) q.row) (y * 10) p.row)) base (.slice (some ⟨g, 0, none⟩) n cap) ((L.set x q).set y p) := by
  have hx1 := (List.getElem?_eq_some_iff.1 hx).1
  have hy1 := (List.getElem?_eq_some_iff.1 hy).1
  have hn := own_none h
  have h1 := OwnR.put (W' := W.setRow g (ptL C (x * 10) q.row)) h (by rw [List.length_map]; exact hn) (by omega : x < n) hC (Fx.row_len q) (Fx.row_one q) (setRow_heap _ _ _ _ _ _ hC)
  have h2 := OwnR.put (W' := (W.setRow g (ptL C (x * 10) q.row)).setRow g (ptL (ptL C (x * 10) q.row) (y * 10) p.row)) h1 (by rw [List.length_set, List.length_map]; exact hn) (by omega : y < n) (setRow_heap _ _ _ _ _ _ hC) (Fx.row_len p) (Fx.row_one p) (setRow_heap _ _ _ _ _ _ (setRow_heap _ _ _ _ _ _ hC))
  unfold OwnF
  rw [List.map_set, List.map_set]
  exact h2
def tLt (x y : Fx) : Prop := x.t < y.t
theorem box10 {W : World} {b : Nat} {x : Fx} (h : W.heap[b]? = some (.cells x.row.toArray 55)) : W.cell? ⟨b, 0, none⟩ = some (.int .i64 x.t) ∧ W.cell? ⟨b, 1, none⟩ = some (.int .i64 x.x) ∧ W.cell? ⟨b, 2, none⟩ = some (.int .i64 x.y) ∧ W.cell? ⟨b, 3, none⟩ = some (.int .i64 x.z) ∧ W.cell? ⟨b, 4, none⟩ = some (.int .i64 x.e) ∧ W.cell? ⟨b, 5, none⟩ = some (.int .i64 x.a) ∧ W.cell? ⟨b, 6, none⟩ = some (.int .i64 x.b) ∧ W.cell? ⟨b, 7, none⟩ = some (.int .i64 x.c) ∧ W.cell? ⟨b, 8, none⟩ = some (.int .i64 x.d) ∧ W.cell? ⟨b, 9, none⟩ = some (.int .i64 x.g) :=
  ⟨(cell_row (j := 0) h).trans rfl, (cell_row (j := 1) h).trans rfl, (cell_row (j := 2) h).trans rfl, (cell_row (j := 3) h).trans rfl, (cell_row (j := 4) h).trans rfl, (cell_row (j := 5) h).trans rfl, (cell_row (j := 6) h).trans rfl, (cell_row (j := 7) h).trans rfl, (cell_row (j := 8) h).trans rfl, (cell_row (j := 9) h).trans rfl⟩
set_option maxRecDepth 100000 in
set_option maxHeartbeats 3200000 in
theorem distinct_swap (s0 s1 s2 s4 s5 s6 s7 s8 s9 s11 s12 s13 s14 s15 s16 s17 s18 s19 s20 s21 s22 s23 s24 s25 s26 s27 s28 s29 s30 s31 s32 s33 s34 s35 s36 s37 s38 s39 s40 s41 s42 s43 s44 s45 s46 s47 s48 s49 s50 s51 s52 s53 s54 s55 s56 s57 s58 s59 s60 s61 s62 s63 s64 s65 s66 s67 s68 s69 s70 s71 s72 s73 s74 s75 s76 s77 s78 : Value) (V : World) (B g n cap x : Nat) (p q : Fx) (Lp : List Fx) (Q : Exit → Act → World → Prop) (R : Code) (hR : Try.f126.body.bind (findR 20) = some R)
    (ho : OwnF V B (.slice (some ⟨g, 0, none⟩) n cap) Lp) (hx0 : 0 < x) (hxb : x ≤ 1000000) (hp : Lp[x]? = some p) (hq : Lp[x - 1]? = some q)
    (HQ : Hid (∀ (u61 u62 u63 u64 u65 u66 u67 u68 u69 u70 u71 u72 u73 u74 u75 u76 : Value) (W5 : World), OwnF W5 B (.slice (some ⟨g, 0, none⟩) n cap) ((Lp.set x q).set (x - 1) p) → V.grownBy W5 (some g) → Q Exit.normal ({ tmps := List.toArray (List.cons (s0) (List.cons (s1) (List.cons (s2) (List.cons (.slice (some ⟨g, 0, none⟩) n cap) (List.cons (s4) (List.cons (s5) (List.cons (s6) (List.cons (s7) (List.cons (s8) (List.cons (s9) (List.cons (.int .i64 (x : Int)) (List.cons (s11) (List.cons (s12) (List.cons (s13) (List.cons (s14) (List.cons (s15) (List.cons (s16) (List.cons (s17) (List.cons (s18) (List.cons (s19) (List.cons (s20) (List.cons (s21) (List.cons (s22) (List.cons (s23) (List.cons (s24) (List.cons (s25) (List.cons (s26) (List.cons (s27) (List.cons (s28) (List.cons (s29) (List.cons (s30) (List.cons (s31) (List.cons (s32) (List.cons (s33) (List.cons (s34) (List.cons (s35) (List.cons (s36) (List.cons (s37) (List.cons (s38) (List.cons (s39) (List.cons (s40) (List.cons (s41) (List.cons (s42) (List.cons (s43) (List.cons (s44) (List.cons (s45) (List.cons (s46) (List.cons (s47) (List.cons (s48) (List.cons (s49) (List.cons (s50) (List.cons (s51) (List.cons (s52) (List.cons (s53) (List.cons (s54) (List.cons (s55) (List.cons (s56) (List.cons (s57) (List.cons (s58) (List.cons (s59) (List.cons (s60) (List.cons (u61) (List.cons (u62) (List.cons (u63) (List.cons (u64) (List.cons (u65) (List.cons (u66) (List.cons (u67) (List.cons (u68) (List.cons (u69) (List.cons (u70) (List.cons (u71) (List.cons (u72) (List.cons (u73) (List.cons (u74) (List.cons (u75) (List.cons (u76) (List.cons (s77) (List.cons (s78) List.nil))))))))))))))))))))))))))))))))))))))))))))))))))))))))))))))))))))))))))))))), defers := [] } : Act) W5)) :
    Code.wp Try.prog R Q ({ tmps := List.toArray (List.cons (s0) (List.cons (s1) (List.cons (s2) (List.cons (.slice (some ⟨g, 0, none⟩) n cap) (List.cons (s4) (List.cons (s5) (List.cons (s6) (List.cons (s7) (List.cons (s8) (List.cons (s9) (List.cons (.int .i64 (x : Int)) (List.cons (s11) (List.cons (s12) (List.cons (s13) (List.cons (s14) (List.cons (s15) (List.cons (s16) (List.cons (s17) (List.cons (s18) (List.cons (s19) (List.cons (s20) (List.cons (s21) (List.cons (s22) (List.cons (s23) (List.cons (s24) (List.cons (s25) (List.cons (s26) (List.cons (s27) (List.cons (s28) (List.cons (s29) (List.cons (s30) (List.cons (s31) (List.cons (s32) (List.cons (s33) (List.cons (s34) (List.cons (s35) (List.cons (s36) (List.cons (s37) (List.cons (s38) (List.cons (s39) (List.cons (s40) (List.cons (s41) (List.cons (s42) (List.cons (s43) (List.cons (s44) (List.cons (s45) (List.cons (s46) (List.cons (s47) (List.cons (s48) (List.cons (s49) (List.cons (s50) (List.cons (s51) (List.cons (s52) (List.cons (s53) (List.cons (s54) (List.cons (s55) (List.cons (s56) (List.cons (s57) (List.cons (s58) (List.cons (s59) (List.cons (s60) (List.cons (s61) (List.cons (s62) (List.cons (s63) (List.cons (s64) (List.cons (s65) (List.cons (s66) (List.cons (s67) (List.cons (s68) (List.cons (s69) (List.cons (s70) (List.cons (s71) (List.cons (s72) (List.cons (s73) (List.cons (s74) (List.cons (s75) (List.cons (s76) (List.cons (s77) (List.cons (s78) List.nil))))))))))))))))))))))))))))))))))))))))))))))))))))))))))))))))))))))))))))))), defers := [] } : Act) V := by
  simp [findR, Try.f126] at hR
  subst hR
  obtain ⟨C, hC, hcs⟩ := block_at ho (by have := (List.getElem?_eq_some_iff.1 hp).1; omega)
  have hn := own_none ho
  have hcn : n ≤ cap := own_cap ho hn.symm
  have hx1 : x < n := by rw [hn]; exact (List.getElem?_eq_some_iff.1 hp).1
  have hd0 : decide ((0 : Int) < (x : Int)) = true := decide_eq_true (by omega)
  have hcz : n * 10 ≤ C.size := by rw [hcs]; exact Nat.mul_le_mul_right 10 hcn
  have hrow := rows_at ho (by omega)
  have HO := hid ho
  have YC := hid hC
  have YK := hid (Below.refl V.heap.size V)
  have YP := hid (row_of hrow hp (x * 10) rfl)
  have YQ := hid (row_of hrow hq ((x - 1) * 10) rfl)
  have HPX := hid hp
  have HQY := hid hq
  clear ho hC hcs hn hrow hp hq hcn
  refine gen_act (fun A0 hA => ?_)
  refine wp_region_by (by kernel_rfl) (by kernel_rfl) [some 61, some 62, some 63, some 64, some 65, some 66, some 67, some 68, some 69, some 70, some 71, some 72, some 73, some 74, some 75, none, some 76, none] rfl (by decide) (TwoT V.drew (V.drew.setRow g (ptL C (x * 10) [.int .i64 q.t, .int .i64 q.x, .int .i64 q.y, .int .i64 q.z, .int .i64 q.e, .int .i64 q.a, .int .i64 q.b, .int .i64 q.c, .int .i64 q.d, .int .i64 q.g])) ((V.drew.setRow g (ptL C (x * 10) [.int .i64 q.t, .int .i64 q.x, .int .i64 q.y, .int .i64 q.z, .int .i64 q.e, .int .i64 q.a, .int .i64 q.b, .int .i64 q.c, .int .i64 q.d, .int .i64 q.g])).setRow g (ptL (ptL C (x * 10) [.int .i64 q.t, .int .i64 q.x, .int .i64 q.y, .int .i64 q.z, .int .i64 q.e, .int .i64 q.a, .int .i64 q.b, .int .i64 q.c, .int .i64 q.d, .int .i64 q.g]) ((x - 1) * 10) [.int .i64 p.t, .int .i64 p.x, .int .i64 p.y, .int .i64 p.z, .int .i64 p.e, .int .i64 p.a, .int .i64 p.b, .int .i64 p.c, .int .i64 p.d, .int .i64 p.g])) 15 17 [0, 1, 5, 6, 7, 8, 9, 13, 14] [.slice (some ⟨g, 0, none⟩) n cap, .int .i64 (x : Int), .slice (some ⟨g, 0, none⟩) n cap, .int .i64 (x : Int), .int .i64 ((x : Int) - 1), .slice (some ⟨g, 0, none⟩) n cap, .int .i64 (x : Int), .int .i64 ((x : Int) - 1), .pointer (some ⟨g, (x - 1) * 10, none⟩), .agg #[.int .i64 q.t, .int .i64 q.x, .int .i64 q.y, .int .i64 q.z, .int .i64 q.e, .int .i64 q.a, .int .i64 q.b, .int .i64 q.c, .int .i64 q.d, .int .i64 q.g], .slice (some ⟨g, 0, none⟩) n cap, .int .i64 (x : Int), .pointer (some ⟨g, x * 10, none⟩), .agg #[.int .i64 p.t, .int .i64 p.x, .int .i64 p.y, .int .i64 p.z, .int .i64 p.e, .int .i64 p.a, .int .i64 p.b, .int .i64 p.c, .int .i64 p.d, .int .i64 p.g], .pointer (some ⟨g, x * 10, none⟩), undef, .pointer (some ⟨g, (x - 1) * 10, none⟩), undef]) (selfF A0 _) (putF_self A0 _) TwoT.start ?hs1_20_W1 ?hend_20_W1
  case hs1_20_W1 =>
    refine ⟨?_, ?_, ?_, ?_, ?_, ?_, ?_, ?_, ?_, ?_, ?_, ?_, ?_, ?_, ?_, ?_, ?_, ?_, trivial⟩
    · intro K L us W hK0 hL hd hR
      have hK := hid (fun v A' h1 h2 => hK0 v A' W h1 (hR.pure 0 (by decide) (by decide) h2)); clear hK0
      (try simp [Region.binds] at hd)
      clear hd hR
      simp only [putF]
      rw [hA]
      go_frame
      go_wp2_with fail
      exact hK.out _ _ (by rw [hA]; simp only [putF]; kernel_rfl) rfl
    · intro K L us W hK0 hL hd hR
      have hK := hid (fun v A' h1 h2 => hK0 v A' W h1 (hR.pure 1 (by decide) (by decide) h2)); clear hK0
      (try simp [Region.binds] at hd)
      clear hd hR
      simp only [putF]
      rw [hA]
      go_frame
      go_wp2_with fail
      exact hK.out _ _ (by rw [hA]; simp only [putF]; kernel_rfl) rfl
    · intro K L us W hK0 hL hd hR
      have hK := hid (fun v A' h1 h2 => hK0 v A' W h1 (hR.pure 2 (by decide) (by decide) h2)); clear hK0
      (try simp [Region.binds] at hd)
      clear hd hR
      simp only [putF]
      rw [hA]
      go_frame
      go_wp2_with fail
      exact hK.out _ _ (by rw [hA]; simp only [putF]; kernel_rfl) rfl
    · intro K L us W hK0 hL hd hR
      have hK := hid (fun v A' h1 h2 => hK0 v A' W h1 (hR.pure 3 (by decide) (by decide) h2)); clear hK0
      (try simp [Region.binds] at hd)
      clear hd hR
      simp only [putF]
      rw [hA]
      go_frame
      go_wp2_with fail
      exact hK.out _ _ (by rw [hA]; simp only [putF]; kernel_rfl) rfl
    · intro K L us W hK0 hL hd hR
      have hK := hid (fun v A' h1 h2 => hK0 v A' W h1 (hR.pure 4 (by decide) (by decide) h2)); clear hK0
      (try simp [Region.binds] at hd)
      have e3 : us 3 = .int .i64 (x : Int) := hR.vals 3 (by simp [hd]) (by decide) (by decide)
      clear hd hR
      simp only [putF]
      rw [hA, e3]
      go_frame
      go_wp2_with fail
      exact hK.out _ _ (by rw [hA]; simp only [putF]; rw [e3]; kernel_rfl) rfl
    · intro K L us W hK0 hL hd hR
      have hK := hid (fun v A' h1 h2 => hK0 v A' W h1 (hR.pure 5 (by decide) (by decide) h2)); clear hK0
      (try simp [Region.binds] at hd)
      clear hd hR
      simp only [putF]
      rw [hA]
      go_frame
      go_wp2_with fail
      exact hK.out _ _ (by rw [hA]; simp only [putF]; kernel_rfl) rfl
    · intro K L us W hK0 hL hd hR
      have hK := hid (fun v A' h1 h2 => hK0 v A' W h1 (hR.pure 6 (by decide) (by decide) h2)); clear hK0
      (try simp [Region.binds] at hd)
      clear hd hR
      simp only [putF]
      rw [hA]
      go_frame
      go_wp2_with fail
      exact hK.out _ _ (by rw [hA]; simp only [putF]; kernel_rfl) rfl
    · intro K L us W hK0 hL hd hR
      have hK := hid (fun v A' h1 h2 => hK0 v A' W h1 (hR.pure 7 (by decide) (by decide) h2)); clear hK0
      (try simp [Region.binds] at hd)
      have e6 : us 6 = .int .i64 (x : Int) := hR.vals 6 (by simp [hd]) (by decide) (by decide)
      clear hd hR
      simp only [putF]
      rw [hA, e6]
      go_frame
      go_wp2_with fail
      exact hK.out _ _ (by rw [hA]; simp only [putF]; rw [e6]; kernel_rfl) rfl
    · intro K L us W hK0 hL hd hR
      have hK := hid (fun v A' h1 h2 => hK0 v A' W h1 (hR.pure 8 (by decide) (by decide) h2)); clear hK0
      (try simp [Region.binds] at hd)
      have e5 : us 5 = .slice (some ⟨g, 0, none⟩) n cap := hR.vals 5 (by simp [hd]) (by decide) (by decide)
      have e7 : us 7 = .int .i64 ((x : Int) - 1) := hR.vals 7 (by simp [hd]) (by decide) (by decide)
      clear hd hR
      simp only [putF]
      rw [hA, e5, e7]
      go_frame
      go_wp2_with fail
      exact hK.out _ _ (by rw [hA]; simp only [putF]; rw [e5, e7]; kernel_rfl) rfl
    · intro K L us W hK0 hL hd hR
      have hK := hid (fun v A' h1 h2 => hK0 v A' W h1 (hR.pure 9 (by decide) (by decide) h2)); clear hK0
      (try simp [Region.binds] at hd)
      have e8 : us 8 = .pointer (some ⟨g, (x - 1) * 10, none⟩) := hR.vals 8 (by simp [hd]) (by decide) (by decide)
      have hW := hR.at0 (k := 9) (by decide) hL
      clear hd hR
      subst hW
      have c0 : V.drew.cell? ⟨g, (x - 1) * 10, none⟩ = some (.int .i64 q.t) := YQ.out 0 (by decide)
      have c1 : V.drew.cell? ⟨g, (x - 1) * 10 + 1, none⟩ = some (.int .i64 q.x) := YQ.out 1 (by decide)
      have c2 : V.drew.cell? ⟨g, (x - 1) * 10 + 2, none⟩ = some (.int .i64 q.y) := YQ.out 2 (by decide)
      have c3 : V.drew.cell? ⟨g, (x - 1) * 10 + 3, none⟩ = some (.int .i64 q.z) := YQ.out 3 (by decide)
      have c4 : V.drew.cell? ⟨g, (x - 1) * 10 + 4, none⟩ = some (.int .i64 q.e) := YQ.out 4 (by decide)
      have c5 : V.drew.cell? ⟨g, (x - 1) * 10 + 5, none⟩ = some (.int .i64 q.a) := YQ.out 5 (by decide)
      have c6 : V.drew.cell? ⟨g, (x - 1) * 10 + 6, none⟩ = some (.int .i64 q.b) := YQ.out 6 (by decide)
      have c7 : V.drew.cell? ⟨g, (x - 1) * 10 + 7, none⟩ = some (.int .i64 q.c) := YQ.out 7 (by decide)
      have c8 : V.drew.cell? ⟨g, (x - 1) * 10 + 8, none⟩ = some (.int .i64 q.d) := YQ.out 8 (by decide)
      have c9 : V.drew.cell? ⟨g, (x - 1) * 10 + 9, none⟩ = some (.int .i64 q.g) := YQ.out 9 (by decide)
      simp only [putF]
      rw [hA, e8]
      go_frame
      go_wp2_with fail
      exact hK.out _ _ (by rw [hA]; simp only [putF]; rw [e8]; kernel_rfl) rfl
    · intro K L us W hK0 hL hd hR
      have hK := hid (fun v A' h1 h2 => hK0 v A' W h1 (hR.pure 10 (by decide) (by decide) h2)); clear hK0
      (try simp [Region.binds] at hd)
      clear hd hR
      simp only [putF]
      rw [hA]
      go_frame
      go_wp2_with fail
      exact hK.out _ _ (by rw [hA]; simp only [putF]; kernel_rfl) rfl
    · intro K L us W hK0 hL hd hR
      have hK := hid (fun v A' h1 h2 => hK0 v A' W h1 (hR.pure 11 (by decide) (by decide) h2)); clear hK0
      (try simp [Region.binds] at hd)
      clear hd hR
      simp only [putF]
      rw [hA]
      go_frame
      go_wp2_with fail
      exact hK.out _ _ (by rw [hA]; simp only [putF]; kernel_rfl) rfl
    · intro K L us W hK0 hL hd hR
      have hK := hid (fun v A' h1 h2 => hK0 v A' W h1 (hR.pure 12 (by decide) (by decide) h2)); clear hK0
      (try simp [Region.binds] at hd)
      have e10 : us 10 = .slice (some ⟨g, 0, none⟩) n cap := hR.vals 10 (by simp [hd]) (by decide) (by decide)
      have e11 : us 11 = .int .i64 (x : Int) := hR.vals 11 (by simp [hd]) (by decide) (by decide)
      clear hd hR
      simp only [putF]
      rw [hA, e10, e11]
      go_frame
      go_wp2_with fail
      exact hK.out _ _ (by rw [hA]; simp only [putF]; rw [e10, e11]; kernel_rfl) rfl
    · intro K L us W hK0 hL hd hR
      have hK := hid (fun v A' h1 h2 => hK0 v A' W h1 (hR.pure 13 (by decide) (by decide) h2)); clear hK0
      (try simp [Region.binds] at hd)
      have e12 : us 12 = .pointer (some ⟨g, x * 10, none⟩) := hR.vals 12 (by simp [hd]) (by decide) (by decide)
      have hW := hR.at0 (k := 13) (by decide) hL
      clear hd hR
      subst hW
      have c0 : V.drew.cell? ⟨g, x * 10, none⟩ = some (.int .i64 p.t) := YP.out 0 (by decide)
      have c1 : V.drew.cell? ⟨g, x * 10 + 1, none⟩ = some (.int .i64 p.x) := YP.out 1 (by decide)
      have c2 : V.drew.cell? ⟨g, x * 10 + 2, none⟩ = some (.int .i64 p.y) := YP.out 2 (by decide)
      have c3 : V.drew.cell? ⟨g, x * 10 + 3, none⟩ = some (.int .i64 p.z) := YP.out 3 (by decide)
      have c4 : V.drew.cell? ⟨g, x * 10 + 4, none⟩ = some (.int .i64 p.e) := YP.out 4 (by decide)
      have c5 : V.drew.cell? ⟨g, x * 10 + 5, none⟩ = some (.int .i64 p.a) := YP.out 5 (by decide)
      have c6 : V.drew.cell? ⟨g, x * 10 + 6, none⟩ = some (.int .i64 p.b) := YP.out 6 (by decide)
      have c7 : V.drew.cell? ⟨g, x * 10 + 7, none⟩ = some (.int .i64 p.c) := YP.out 7 (by decide)
      have c8 : V.drew.cell? ⟨g, x * 10 + 8, none⟩ = some (.int .i64 p.d) := YP.out 8 (by decide)
      have c9 : V.drew.cell? ⟨g, x * 10 + 9, none⟩ = some (.int .i64 p.g) := YP.out 9 (by decide)
      simp only [putF]
      rw [hA, e12]
      go_frame
      go_wp2_with fail
      exact hK.out _ _ (by rw [hA]; simp only [putF]; rw [e12]; kernel_rfl) rfl
    · intro K L us W hK0 hL hd hR
      have hK := hid (fun v A' h1 h2 => hK0 v A' W h1 (hR.pure 14 (by decide) (by decide) h2)); clear hK0
      (try simp [Region.binds] at hd)
      have e0 : us 0 = .slice (some ⟨g, 0, none⟩) n cap := hR.vals 0 (by simp [hd]) (by decide) (by decide)
      have e1 : us 1 = .int .i64 (x : Int) := hR.vals 1 (by simp [hd]) (by decide) (by decide)
      clear hd hR
      simp only [putF]
      rw [hA, e0, e1]
      go_frame
      go_wp2_with fail
      exact hK.out _ _ (by rw [hA]; simp only [putF]; rw [e0, e1]; kernel_rfl) rfl
    · intro K L us W hK0 hL hd hR
      simp [Region.binds] at hd
      have e14 : us 14 = .pointer (some ⟨g, x * 10, none⟩) := hR.vals 14 (by simp [hd]) (by decide) (by decide)
      have e9 : us 9 = .agg #[.int .i64 q.t, .int .i64 q.x, .int .i64 q.y, .int .i64 q.z, .int .i64 q.e, .int .i64 q.a, .int .i64 q.b, .int .i64 q.c, .int .i64 q.d, .int .i64 q.g] := hR.vals 9 (by simp [hd]) (by decide) (by decide)
      have hp : ∀ j ∈ [0, 1, 5, 6, 7, 8, 9, 13, 14], L j = true := by
        intro j hj
        simp only [List.mem_cons, List.not_mem_nil, or_false] at hj
        rcases hj with rfl | rfl | rfl | rfl | rfl | rfl | rfl | rfl | rfl
        all_goals (simp [hd])
      have hW := (hR.fst (v := undef) hL hp (by decide)).1
      have hK := hid (fun A' h1 => hK0 undef A' _ h1 (hR.fst hL hp (by decide)).2); clear hK0 hp
      clear hd hR
      subst hW
      simp only [putF]
      rw [hA, e14, e9]
      go_frame
      go_wp2_with (refine pt_store rfl 55 (.tmp 75) (.tmp 70) rfl g (x * 10) _ rfl rfl (show V.drew.heap[g]? = _ from YC.out) size55f rfl (by show x * 10 + 10 ≤ C.size; omega) rfl ?_)
      exact hK.out _ (by rw [hA]; simp only [putF]; rw [e14, e9]; kernel_rfl)
    · intro K L us W hK0 hL hd hR
      have hK := hid (fun v A' h1 h2 => hK0 v A' W h1 (hR.pure 16 (by decide) (by decide) h2)); clear hK0
      (try simp [Region.binds] at hd)
      have e2 : us 2 = .slice (some ⟨g, 0, none⟩) n cap := hR.vals 2 (by simp [hd]) (by decide) (by decide)
      have e4 : us 4 = .int .i64 ((x : Int) - 1) := hR.vals 4 (by simp [hd]) (by decide) (by decide)
      clear hd hR
      simp only [putF]
      rw [hA, e2, e4]
      go_frame
      go_wp2_with fail
      exact hK.out _ _ (by rw [hA]; simp only [putF]; rw [e2, e4]; kernel_rfl) rfl
    · intro K L us W hK0 hL hd hR
      simp [Region.binds] at hd
      have e16 : us 16 = .pointer (some ⟨g, (x - 1) * 10, none⟩) := hR.vals 16 (by simp [hd]) (by decide) (by decide)
      have e13 : us 13 = .agg #[.int .i64 p.t, .int .i64 p.x, .int .i64 p.y, .int .i64 p.z, .int .i64 p.e, .int .i64 p.a, .int .i64 p.b, .int .i64 p.c, .int .i64 p.d, .int .i64 p.g] := hR.vals 13 (by simp [hd]) (by decide) (by decide)
      have h5 : L 15 = true := by simp [hd]
      have hW := (hR.snd (v := undef) h5 hL).1
      have hK := hid (fun A' h1 => hK0 undef A' _ h1 (hR.snd h5 hL).2); clear hK0
      clear hd hR
      subst hW
      simp only [putF]
      rw [hA, e16, e13]
      go_frame
      go_wp2_with (refine pt_store rfl 55 (.tmp 76) (.tmp 74) rfl g ((x - 1) * 10) _ rfl rfl (setRow_heap _ _ _ _ _ _ (show V.drew.heap[g]? = _ from YC.out)) size55f rfl (by show (x - 1) * 10 + 10 ≤ (ptL C (x * 10) _).size; rw [ptL_size]; omega) rfl ?_)
      exact hK.out _ (by rw [hA]; simp only [putF]; rw [e16, e13]; kernel_rfl)
  intro L us W1 hL hR
  have hW : W1 = (V.drew.setRow g (ptL C (x * 10) [.int .i64 q.t, .int .i64 q.x, .int .i64 q.y, .int .i64 q.z, .int .i64 q.e, .int .i64 q.a, .int .i64 q.b, .int .i64 q.c, .int .i64 q.d, .int .i64 q.g])).setRow g (ptL (ptL C (x * 10) [.int .i64 q.t, .int .i64 q.x, .int .i64 q.y, .int .i64 q.z, .int .i64 q.e, .int .i64 q.a, .int .i64 q.b, .int .i64 q.c, .int .i64 q.d, .int .i64 q.g]) ((x - 1) * 10) [.int .i64 p.t, .int .i64 p.x, .int .i64 p.y, .int .i64 p.z, .int .i64 p.e, .int .i64 p.a, .int .i64 p.b, .int .i64 p.c, .int .i64 p.d, .int .i64 p.g]) := by have := hR.wld; rw [hL 17 (by decide)] at this; exact this
  clear hR hL
  simp only [putF]
  rw [hA]
  clear hA
  go_frame
  subst hW
  refine HQ.out _ _ _ _ _ _ _ _ _ _ _ _ _ _ _ _ _ (own_swapF (OwnR.heap HO.out (fun _ _ h _ => h) : OwnF V.drew B (.slice (some ⟨g, 0, none⟩) n cap) Lp) YC.out HPX.out HQY.out) ?_
  exact grown_row (grown_row (show V.grownBy V.drew (some g) from ⟨rfl, rfl, rfl, Nat.le_refl _, fun _ _ _ => rfl⟩) _) _
set_option maxRecDepth 100000 in
set_option maxHeartbeats 3200000 in
theorem distinct_any (v : Value) (xs : List Fx) (w : World) (hv : FxV w v xs) (hn : xs.length ≤ 1000) :
    Calls Try.prog 126 #[v] w fun r w' => (∃ v' E, r = .returned v' ∧ OwnF w' w.heap.size v' E ∧ E.Nodup ∧ (∀ x, x ∈ E ↔ x ∈ xs) ∧ timesUp Fx.t E) ∧ Below w.heap.size w w' := by
  obtain ⟨pa, pc, rfl, hpd⟩ := hv.opens
  obtain ⟨n, hnn⟩ : ∃ n, n = xs.length := ⟨_, rfl⟩
  rw [← hnn] at hn ⊢
  have HN := hid hnn
  have HPD := hid hpd
  clear hnn hpd hv
  obtain ⟨i0, hinf, hz0, hz1, hz2⟩ := info_parts info55f
  have HI := hid hinf
  have HZ0 := hid hz0
  have HZ1 := hid hz1
  have HZ2 := hid hz2
  clear hinf hz0 hz1 hz2
  go_enter Try.func126, Try.ntmps126
  go_wp2_with fail
  go_loopw [3, 13] (fun ov iv W => ∃ (i : Nat) (O : List Fx), i ≤ n ∧ iv = .int .i64 (i : Int) ∧ OwnF W w.heap.size ov O ∧ O.Nodup ∧ O.length ≤ i ∧ (∀ x, x ∈ O ↔ x ∈ xs.take i) ∧ Below w.heap.size w W) (fun _ iv _ => n - (intOf iv).toNat)
  case atStart => exact ⟨0, [], by omega, rfl, OwnR.nil _ _ _ _, List.nodup_nil, Nat.le_refl _, fun x => by simp, Below.refl _ _⟩
  case round =>
    obtain ⟨i, O, hi, rfl, hO, hnd, hol, hmem, hB⟩ := hrel
    have HO := hid hO
    have HND := hid hnd
    have HMEM := hid hmem
    have HB := hid hB
    obtain ⟨oa, oc, hov⟩ := OwnR.slice hO
    rw [List.length_map] at hov
    obtain ⟨on, hon⟩ : ∃ on, on = O.length := ⟨_, rfl⟩
    rw [← hon] at hov hol
    subst hov
    have HON := hid hon
    clear hO hnd hmem hB hon
    by_cases hlt : i < n
    · have e3 : decide ((i : Int) < (n : Int)) = true := decide_eq_true (by omega)
      obtain ⟨x, hx⟩ : ∃ x, xs[i]? = some x := ⟨_, List.getElem?_eq_getElem (by rw [← HN.out]; exact hlt)⟩
      obtain ⟨b, off, ha, hbl, hrow⟩ := HPD.out i x hx
      subst ha
      have hc := row_off (hrow.still HB.out hbl) hx (off + i * 10) rfl
      have HX := hid hx
      clear hx hrow
      go_wp2_with (first | (refine fx_load rfl 55 (.tmp 15) rfl b (off + i * 10) rfl x hc Try.underlying55 rfl size55f ?_) | (refine wpList_store_new rfl 55 (.tmp 5) (.tmp 16) rfl rfl rfl rfl size55f (row_arr x) rfl rfl ?_))
      refine gen_world (fun W0 hW0 => ?_)
      have KB := hid (show W0.heap[wr.heap.size]? = some (.cells x.row.toArray 55) by rw [hW0]; exact heap_alloc_at _ _ _ rfl)
      have HB0Q := hid (show Below wr.heap.size wr W0 by rw [hW0]; exact (Below.refl _ _).alloc (Nat.le_refl _) _)
      clear hW0 hc
      have HO0 := hid (OwnR.grow HO.out HB0Q.out)
      have HB0 := hid (HB.out.trans (HB0Q.out.mono HB.out.size))
      have hw0 : wr.heap.size < W0.heap.size := (Array.getElem?_eq_some_iff.1 KB.out).1
      go_loopw [6, 19] (fun tv kv W => ∃ (k : Nat) (tq : Bool), k ≤ on ∧ kv = .int .i64 (k : Int) ∧ tv = .bool tq ∧ (tq = true ↔ ∃ j, j < k ∧ O[j]? = some x) ∧ Below W0.heap.size W0 W) (fun _ kv _ => on - (intOf kv).toNat)
      case atStart => exact ⟨0, false, by omega, rfl, rfl, ⟨fun h => absurd h (by decide), fun ⟨j, h, _⟩ => absurd h (Nat.not_lt_zero _)⟩, Below.refl _ _⟩
      case round =>
        obtain ⟨k, tq, hk, rfl, rfl, htq, hB2⟩ := hrel
        have HTQ := hid htq
        have HB2 := hid hB2
        clear htq hB2
        by_cases hlk : k < on
        · have e4 : decide ((k : Int) < (on : Int)) = true := decide_eq_true (by omega)
          obtain ⟨y, hy⟩ : ∃ y, O[k]? = some y := ⟨_, List.getElem?_eq_getElem (by rw [← HON.out]; exact hlk)⟩
          obtain ⟨g, hoa, hrw, hgl⟩ := own_at HO0.out hy
          subst hoa
          have hcy := row_of (hrw.still HB2.out hgl) hy (k * 10) rfl
          have HY := hid hy
          have KX := hid (heap_still HB2.out KB.out)
          clear hy hrw
          cases tq with
          | true =>
            have HT2 := hid (show (true = true ↔ ∃ j, j < k + 1 ∧ O[j]? = some x) from ⟨fun _ => by obtain ⟨j, h1, h2⟩ := HTQ.out.1 rfl; exact ⟨j, by omega, h2⟩, fun _ => rfl⟩)
            go_wp2_with (first | (refine fx_load rfl 55 (.tmp 21) rfl g (k * 10) rfl y hcy Try.underlying55 rfl size55f ?_) | (refine wpList_store_new rfl 55 (.tmp 8) (.tmp 22) rfl rfl rfl rfl size55f (row_arr y) rfl rfl ?_))
            exact ⟨⟨k + 1, true, by omega, by go_num, rfl, HT2.out, HB2.out.trans (((Below.refl wr.heap.size wr).alloc (Nat.le_refl _) _).mono HB2.out.size)⟩, by simp [intOf]; omega⟩
          | false =>
            have HT2 := hid (show (decide (x = y) = true ↔ ∃ j, j < k + 1 ∧ O[j]? = some x) from ⟨fun h => ⟨k, by omega, by rw [HY.out, of_decide_eq_true h]⟩, fun ⟨j, h1, h2⟩ => by
              by_cases hjk : j = k
              · subst hjk; rw [HY.out] at h2; injection h2 with h2; rw [h2]; simp
              · exact absurd (HTQ.out.2 ⟨j, by omega, h2⟩) (by decide)⟩)
            have hq1 := eqFx x y
            go_wp2_with (first | (refine fx_load rfl 55 (.tmp 21) rfl g (k * 10) rfl y hcy Try.underlying55 rfl size55f ?_) | (refine wpList_store_new rfl 55 (.tmp 8) (.tmp 22) rfl rfl rfl rfl size55f (row_arr y) rfl rfl ?_) | (refine wpList_load_at rfl 55 (.tmp 5) rfl rfl (heap_still ((Below.refl wr.heap.size wr).alloc (Nat.le_refl _) (.cells y.row.toArray 55)) KX.out) Try.underlying55 rfl size55f (row_arr x) ?_) | (refine wpList_load_at rfl 55 (.tmp 8) rfl rfl (heap_alloc_at _ _ _ rfl) Try.underlying55 rfl size55f (row_arr y) ?_))
            exact ⟨⟨k + 1, decide (x = y), by omega, by go_num, rfl, HT2.out, HB2.out.trans (((Below.refl wr.heap.size wr).alloc (Nat.le_refl _) _).mono HB2.out.size)⟩, by simp [intOf]; omega⟩
        · have e4 : decide ((k : Int) < (on : Int)) = false := decide_eq_false (by omega)
          have hkon : k = on := by omega
          have HMX := hid (show (tq = true ↔ x ∈ O) from HTQ.out.trans ⟨fun ⟨j, _, h⟩ => List.mem_of_getElem? h, fun h => by
            obtain ⟨j, hj⟩ := List.getElem?_of_mem h
            exact ⟨j, by have h9 := (List.getElem?_eq_some_iff.1 hj).1; rw [← HON.out] at h9; omega, hj⟩⟩)
          have HTK := hid (show ∀ z, z ∈ xs.take (i + 1) ↔ z ∈ xs.take i ∨ z = x from fun z => by
            have hil : i < xs.length := by rw [← HN.out]; exact hlt
            have hxe : xs[i] = x := by have h9 := HX.out; rw [List.getElem?_eq_getElem hil] at h9; injection h9
            rw [List.take_succ_eq_append_getElem hil, List.mem_append, List.mem_singleton, hxe])
          have HBr := hid (HB0.out.trans (HB2.out.mono HB0.out.size))
          have HOr := hid (OwnR.grow HO0.out HB2.out)
          have KX := hid (heap_still HB2.out KB.out)
          clear hkon
          cases tq with
          | true =>
            go_wp2_with fail
            refine ⟨⟨i + 1, O, by omega, by go_num, HOr.out, HND.out, by rw [← HON.out]; omega, fun z => ?_, HBr.out⟩, by simp [intOf]; omega⟩
            rw [HTK.out, HMEM.out]
            exact ⟨.inl, fun h => h.elim id (fun h => by rw [h]; exact (HMEM.out x).1 (HMX.out.1 rfl))⟩
          | false =>
            obtain ⟨k0, k1, k2, k3, k4, k5, k6, k7, k8, k9⟩ := box10 KX.out
            have HL1 := hid (show (O.map Fx.row).length + [x.row].length ≤ maxLen by rw [List.length_map, ← HON.out]; show on + 1 ≤ _; unfold maxLen; omega)
            have HL2 := hid (show ((O.map Fx.row).length + [x.row].length) * 80 ≤ 140737488355328 by rw [List.length_map, ← HON.out]; show (on + 1) * 80 ≤ _; omega)
            have HL3 := hid (show w.heap.size ≤ (wr.alloc (.cells #[.int .i64 x.t, .int .i64 x.x, .int .i64 x.y, .int .i64 x.z, .int .i64 x.e, .int .i64 x.a, .int .i64 x.b, .int .i64 x.c, .int .i64 x.d, .int .i64 x.g] 55)).heap.size by simp; have h1 := HBr.out.size; omega)
            go_wp2_with (first | (at_builtin; go_loud (refine wpList_append_rowsR rfl (.tmp 32) (.tmp 34) 106 rfl w.heap.size 55 i0 _ 10 80 Try.underlying106 HI.out HZ0.out HZ1.out HZ2.out rfl (by decide) (.slice oa on oc) (O.map Fx.row) [x.row] rfl (OwnR.grow HOr.out ((Below.refl wr.heap.size wr).alloc (Nat.le_refl _) (.cells #[.int .i64 x.t, .int .i64 x.x, .int .i64 x.y, .int .i64 x.z, .int .i64 x.e, .int .i64 x.a, .int .i64 x.b, .int .i64 x.c, .int .i64 x.d, .int .i64 x.g] 55))) wr.heap.size 0 1 1 rfl rfl (rows_one (f := x) (heap_alloc_at _ _ _ rfl)) (rows_wide [x]) HL1.out HL2.out HL3.out ?_; intro v6 w6 ho6 hg6 z6; clear z6; have HO6 := hid (show OwnF w6 w.heap.size v6 (O ++ [x]) by unfold OwnF; rw [List.map_append]; exact ho6); have HB6 := hid (show Below w.heap.size w w6 from (HBr.out.alloc HBr.out.size _).grown hg6 HL3.out (fun k9 hk9 => OwnR.ownBlock HOr.out k9 hk9)); clear ho6 hg6)))
            refine ⟨⟨i + 1, O ++ [x], by omega, by go_num, HO6.out, ?_, by rw [List.length_append, ← HON.out, List.length_singleton]; omega, fun z => ?_, HB6.out⟩, by simp [intOf]; omega⟩
            · rw [List.nodup_append]
              refine ⟨HND.out, by simp, fun a ha b hb e => ?_⟩
              rw [List.mem_singleton.1 hb] at e
              rw [e] at ha
              exact absurd (HMX.out.2 ha) (by decide)
            · rw [HTK.out, ← HMEM.out, List.mem_append, List.mem_singleton]
    · have e3 : decide ((i : Int) < (n : Int)) = false := decide_eq_false (by omega)
      have HME := hid (show ∀ x, x ∈ O ↔ x ∈ xs from fun x => by rw [HMEM.out, List.take_of_length_le (by rw [← HN.out]; omega)])
      have honb : on ≤ 1000 := by omega
      clear HMEM hol hi
      obtain ⟨wq, hwq⟩ : ∃ wq, wq = wr := ⟨_, rfl⟩
      subst hwq
      go_wp2_with fail
      clear e3 hlt
      go_loopw [39] (fun iv W => ∃ (i : Nat) (L : List Fx), i ≤ on ∧ iv = .int .i64 (i : Int) ∧ L.Perm O ∧ SortedTo tLt L i ∧ OwnF W w.heap.size (.slice oa on oc) L ∧ Below w.heap.size w W) (fun iv _ => on - (intOf iv).toNat)
      case atStart => exact ⟨0, O, by omega, rfl, List.Perm.refl _, fun a b x y _ h => by omega, HO.out, HB.out⟩
      case round =>
        obtain ⟨i, L, hi, rfl, hpm, hst, hoL, hB⟩ := hrel
        have HPM := hid hpm
        have HST := hid hst
        have HOL := hid hoL
        have HBW := hid hB
        clear hpm hst hoL hB
        by_cases hlt : i < on
        · have d1 : decide ((i : Int) < (on : Int)) = true := decide_eq_true (by omega)
          go_wp2_with fail
          go_loopw [10] (fun kv W => ∃ (k : Nat) (L2 : List Fx), k ≤ i ∧ kv = .int .i64 (k : Int) ∧ L2.Perm O ∧ InsAt tLt L2 i k ∧ OwnF W w.heap.size (.slice oa on oc) L2 ∧ Below w.heap.size w W) (fun kv _ => (intOf kv).toNat)
          case atStart => exact ⟨i, L, by omega, rfl, HPM.out, insT_start HST.out, HOL.out, HBW.out⟩
          case round =>
            obtain ⟨k, Lk, hk, rfl, hpm, hin, hoL, hB⟩ := hrel
            have HPK := hid hpm
            have HIN := hid hin
            have HOK := hid hoL
            have HBK := hid hB
            have hzw := hB.size
            have hLn : Lk.length = on := by rw [hpm.length_eq]; exact HON.out.symm
            clear hpm hin hoL hB
            by_cases hk0 : k = 0
            · have hg0 : decide ((0 : Int) < (k : Int)) = false := decide_eq_false (by omega)
              have hg1 : ¬ 0 < k := by omega
              have hg2 : decide (0 < k) = false := decide_eq_false hg1
              have HK0 := hid hk0
              clear hk0
              go_wp2_with fail
              refine wp_region_quiet_below (by kernel_rfl) (by kernel_rfl) ?_
              repeat (first | go_big_quiet_step (fail) | quiet_step (fail))
              refine wpQuiet_nil ?_
              intro _ hw'
              obtain ⟨⟨dqV, osV⟩, hw2⟩ := hw'
              subst hw2
              have HQV := hid (below_regrown wr dqV osV)
              generalize Sort.grow (redrawn wr dqV) osV = V at HQV ⊢
              have hsV := HQV.out.size
              go_wp2_with fail
              exact ⟨⟨i + 1, Lk, by omega, by go_num, HPK.out, insT_end (fun x y z h1 h2 h3 => by unfold tLt at *; omega) HIN.out hk (fun x y h => absurd h hg1), OwnR.grow HOK.out HQV.out, HBK.out.trans (HQV.out.mono hzw)⟩, by simp [intOf]; omega⟩
            · obtain ⟨p, hp⟩ : ∃ p, Lk[k]? = some p := ⟨_, List.getElem?_eq_getElem (by omega)⟩
              obtain ⟨q, hq⟩ : ∃ q, Lk[k - 1]? = some q := ⟨_, List.getElem?_eq_getElem (by omega)⟩
              obtain ⟨g, hoa, hrw, hgl⟩ := own_at HOK.out hp
              subst hoa
              have a0 := fun d os => cell_regrown (show wr.cell? ⟨g, k * 10, none⟩ = some (.int .i64 p.t) from row_of hrw hp (k * 10) rfl 0 (by decide)) d os
              have b0 := fun d os => cell_regrown (show wr.cell? ⟨g, (k - 1) * 10, none⟩ = some (.int .i64 q.t) from row_of hrw hq ((k - 1) * 10) rfl 0 (by decide)) d os
              have hg0 : decide ((0 : Int) < (k : Int)) = true := decide_eq_true (by omega)
              have hg1 : 0 < k := by omega
              have HPX := hid hp
              have HQY := hid hq
              clear hrw hp hq hLn
              by_cases hlt2 : p.t < q.t
              · have hd : decide (p.t < q.t) = true := decide_eq_true hlt2
                go_wp2_with fail
                refine wp_region_quiet_below (by kernel_rfl) (by kernel_rfl) ?_
                repeat (first | go_big_quiet_step (fail) | quiet_step (fail))
                refine wpQuiet_nil ?_
                intro _ hw'
                obtain ⟨⟨dqV, osV⟩, hw2⟩ := hw'
                subst hw2
                have HQV := hid (below_regrown wr dqV osV)
                generalize Sort.grow (redrawn wr dqV) osV = V at HQV ⊢
                have hsV := HQV.out.size
                have HOV := hid (OwnR.grow HOK.out HQV.out)
                have HBV := hid (HBK.out.trans (HQV.out.mono hzw))
                clear a0 b0 HQV
                go_upto_region 20 with fail
                refine distinct_swap _ _ _ _ _ _ _ _ _ _ _ _ _ _ _ _ _ _ _ _ _ _ _ _ _ _ _ _ _ _ _ _ _ _ _ _ _ _ _ _ _ _ _ _ _ _ _ _ _ _ _ _ _ _ _ _ _ _ _ _ _ _ _ _ _ _ _ _ _ _ _ _ _ _ _ _ _ V w.heap.size g on oc k p q Lk _ _ (by kernel_rfl) HOV.out hg1 (by omega) HPX.out HQY.out (hid (fun u61 u62 u63 u64 u65 u66 u67 u68 u69 u70 u71 u72 u73 u74 u75 u76 W5 ho5 hg5 => ?_))
                have HO5 := hid ho5
                have HB5 := hid (HBV.out.grown hg5 HBV.out.size (fun k9 hk9 => OwnR.ownBlock HOV.out k9 hk9))
                have HP5 := hid ((sw_perm HPX.out HQY.out).trans HPK.out)
                have HI5 := hid (show InsAt tLt ((Lk.set k q).set (k - 1) p) i (k - 1) by
                  have e : k = (k - 1) + 1 := by omega
                  have h := insT_step (r := tLt) (k := k - 1) (fun x y h h2 => by unfold tLt at *; omega) (by rw [← e]; exact HIN.out) (by omega) (by rw [← e]; exact HPX.out) HQY.out hlt2
                  rw [← e] at h
                  exact h)
                clear ho5 hg5
                go_wp2_with fail
                exact ⟨⟨k - 1, _, by omega, by congr 1; omega, HP5.out, HI5.out, HO5.out, HB5.out⟩, by simp [intOf]; omega⟩
              · have hd : decide (p.t < q.t) = false := decide_eq_false hlt2
                go_wp2_with fail
                refine wp_region_quiet_below (by kernel_rfl) (by kernel_rfl) ?_
                repeat (first | go_big_quiet_step (fail) | quiet_step (fail))
                refine wpQuiet_nil ?_
                intro _ hw'
                obtain ⟨⟨dqV, osV⟩, hw2⟩ := hw'
                subst hw2
                have HQV := hid (below_regrown wr dqV osV)
                generalize Sort.grow (redrawn wr dqV) osV = V at HQV ⊢
                have hsV := HQV.out.size
                have HOV := hid (OwnR.grow HOK.out HQV.out)
                have HBV := hid (HBK.out.trans (HQV.out.mono hzw))
                clear a0 b0 HQV
                go_wp2_with fail
                exact ⟨⟨i + 1, Lk, by omega, by go_num, HPK.out, insT_end (k := k) (fun x y z h1 h2 h3 => by unfold tLt at *; omega) HIN.out hk (fun x y _ h1 h2 => by
                  rw [HPX.out] at h1
                  rw [HQY.out] at h2
                  injection h1 with h1
                  injection h2 with h2
                  subst h1 h2
                  exact fun h => by unfold tLt at h; omega), HOV.out, HBV.out⟩, by simp [intOf]; omega⟩
        · have d1 : decide ((i : Int) < (on : Int)) = false := decide_eq_false (by omega)
          have hil : i = L.length := by rw [HPM.out.length_eq, ← HON.out]; omega
          have HUP := hid (show timesUp Fx.t L from (sortedTo_pairwise (hil ▸ HST.out)).imp fun h => by unfold tLt at h; omega)
          clear hil
          go_wp2_with fail
          go_ret
          exact ⟨⟨_, L, rfl, HOL.out, HPM.out.nodup_iff.2 HND.out, fun x => by rw [HPM.out.mem_iff, HME.out], HUP.out⟩, HBW.out⟩
end Go.Proofs.Yteoikaedpgianaa
