/- The program's cleaner of fixes: take 121, whatever is kept and put aside. The program's Clean (65) of fixes that are valid. -/
import Derived.Test.YteoikaedpgianaaRFxG
import Derived.Test.YteoikaedpgianaaRIssS
namespace Go.Proofs.Yteoikaedpgianaa
open Go.RowKit Go.Sort Go.Lib Go.Shelf Go.Proofs

theorem jump_small {α : Type} {near : α → α → Bool} {R : List α} (h : R.length < 3) : jumpG near R = false := by
  unfold jumpG
  match R, h with
  | [], _ => rfl
  | [_], _ => rfl
  | [_, _], _ => rfl
theorem take_any (B g : Nat) (m0 m1 m2 m3 : Int) (Kl Rl : List Fx) (I : List (Int × Int)) (f : Fx) (w : World) (h : Cl w B g m0 m1 m2 m3 (Kl, Rl, I)) (hn : I.length + Rl.length ≤ 100000) (hk : Kl.length ≤ 100000) (hf : f.ok = true) (hm : 0 ≤ m1 ∧ m1 ≤ 1000000) (hok : ∀ p ∈ Kl, p.ok = true) (hokr : ∀ p ∈ Rl, p.ok = true) :
    Calls Try.prog 121 #[.pointer (some ⟨g, 0, none⟩), .agg f.row.toArray] w fun r w' => r = .returned (.tuple #[]) ∧ Cl w' B g m0 m1 m2 m3 (takeG Fx.t (nearB m1) (Kl, Rl, I) f) ∧ Below B w w' := by
  obtain ⟨kv, rv, iv, h⟩ := h
  unfold takeG
  simp only
  by_cases h0 : Kl.length = 0
  · have hkeep : keepG (nearB m1) Kl f = true := by
      have : Kl = [] := List.length_eq_zero_iff.1 h0
      subst this
      rfl
    rw [if_pos hkeep]
    exact take_first B g m0 m1 m2 m3 Kl Rl I kv rv iv f w h hn hk h0
  · by_cases hkeep : keepG (nearB m1) Kl f = true
    · rw [if_pos hkeep]
      exact take_keep B g m0 m1 m2 m3 Kl Rl I kv rv iv f w h hn hk hf hm hok (by omega) hkeep
    · rw [if_neg hkeep]
      have hkeep : keepG (nearB m1) Kl f = false := Bool.eq_false_iff.2 hkeep
      by_cases h3 : Rl.length < 2
      · rw [jump_small (by rw [List.length_append, List.length_singleton]; omega), if_neg (by decide)]
        exact take_short B g m0 m1 m2 m3 Kl Rl I kv rv iv f w h hk hf hm hok (by omega) hkeep h3
      · obtain ⟨k, hk3⟩ : ∃ k, Rl.length = k + 2 := ⟨Rl.length - 2, by omega⟩
        have hl : (Rl ++ [f]).length = k + 3 := by rw [List.length_append, List.length_singleton]; omega
        obtain ⟨xa, xb, xc, habc⟩ := three_of (l := Rl ++ [f]) (by omega)
        have hj : jumpG (nearB m1) (Rl ++ [f]) = (nearB m1 xa xb && nearB m1 xb xc) := by unfold jumpG; rw [habc]
        rw [show (Rl ++ [f]).length - 3 = k by omega] at habc
        have hxa : (Rl ++ [f])[k]? = some xa := by have := List.getElem?_drop (xs := Rl ++ [f]) (i := k) (j := 0); rw [habc] at this; exact this.symm
        have hxb : (Rl ++ [f])[k + 1]? = some xb := by have := List.getElem?_drop (xs := Rl ++ [f]) (i := k) (j := 1); rw [habc] at this; exact this.symm
        have hxc : (Rl ++ [f])[k + 2]? = some xc := by have := List.getElem?_drop (xs := Rl ++ [f]) (i := k) (j := 2); rw [habc] at this; exact this.symm
        rw [hj]
        cases hn1 : nearB m1 xa xb with
        | false =>
          rw [Bool.false_and, if_neg (by decide)]
          exact take_no1 B g m0 m1 m2 m3 Kl Rl I kv rv iv f w h hn hk hf hm hok (by omega) hkeep xa xb xc k hk3 hxa hxb hxc hokr hn1
        | true =>
          cases hn2 : nearB m1 xb xc with
          | false =>
            rw [Bool.and_false, if_neg (by decide)]
            exact take_no2 B g m0 m1 m2 m3 Kl Rl I kv rv iv f w h hn hk hf hm hok (by omega) hkeep xa xb xc k hk3 hxa hxb hxc hokr hn1 hn2
          | true =>
            rw [Bool.and_true, if_pos rfl, hk3, show k + 2 - 2 = k by omega, habc, List.take_append_of_le_length (by omega)]
            exact take_jump B g m0 m1 m2 m3 Kl Rl I kv rv iv f w h hn hk hf hm hok (by omega) hkeep xa xb xc k hk3 hxa hxb hxc hokr hn1 hn2
end Go.Proofs.Yteoikaedpgianaa
namespace Go.Proofs.Yteoikaedpgianaa
open Go.RowKit Go.Sort Go.Lib Go.Shelf Go.Proofs

def fixesF (L : List Fx) (i j : Nat) : Int := (L[i]!).f j
/-- the error of rules and fixes -/
def refL (m0 m1 m2 m3 : Int) (L : List Fx) : Int := refV m0 m1 m2 m3 L.length (fixesF L)
theorem FxV.open {W : World} {v : Value} {L : List Fx} (h : FxV W v L) : ∃ ad c, v = .slice ad L.length c ∧ fixRow W ad L.length (fixesF L) := by
  rcases h with ⟨rfl, rfl⟩ | ⟨ad, cap, rfl, hr⟩
  · exact ⟨none, 0, rfl, fun h => absurd h (by simp)⟩
  · refine ⟨some ad, cap, rfl, fun h => ?_⟩
    rcases hr with rfl | ⟨b, off, rfl, hb, hr⟩
    · simp at h
    · refine ⟨b, off, rfl, hb, fun i hi j hj => ?_⟩
      rw [hr i L[i].row (by rw [List.getElem?_map, List.getElem?_eq_getElem hi]; rfl) j hj, Fx.row_at _ j hj]
      unfold fixesF
      rw [getElem!_pos L i hi]
theorem refL_ok {m0 m1 m2 m3 : Int} {L : List Fx} (hr : rulesB m0 m1 m2 m3 = true) (hok : ∀ p ∈ L, p.ok = true) (hn : L.length ≤ 4096) : refL m0 m1 m2 m3 L = 0 :=
  refV_ok hr (allN_iff.2 fun i hi => by
    show fixF (fixesF L i) = true
    unfold fixesF
    rw [getElem!_pos L i hi]
    exact hok _ (List.getElem_mem hi)) (by omega)
theorem Fx.ok_fine {p : Fx} (h : p.ok = true) : p.fine := by
  unfold Fx.ok fixB at h
  unfold Fx.fine
  simp [inB, turnB] at h
  omega
theorem own_none {W : World} {B : Nat} {L : List Fx} {a : Option Addr} {n c : Nat} (h : OwnF W B (.slice a n c) L) : n = L.length := by
  have := OwnR.slice h
  obtain ⟨a', c', h1⟩ := this
  injection h1 with _ h1 _
  rw [h1, List.length_map]
theorem tw_left {D : List Fx} {i : Nat} {x y : Fx} (h : 0 < i) (hx : D[i]? = some x) (hy : D[i - 1]? = some y) (e : y.t = x.t) : twiceG Fx.t D i = true := by
  unfold twiceG; rw [hx, hy]; simp [h, e]
theorem tw_right {D : List Fx} {i : Nat} {x y : Fx} (h : i + 1 < D.length) (hx : D[i]? = some x) (hy : D[i + 1]? = some y) (e : y.t = x.t) : twiceG Fx.t D i = true := by
  unfold twiceG; rw [hx, hy]; simp [h, e]
theorem tw_no {D : List Fx} {i : Nat} {x : Fx} (hx : D[i]? = some x) (hl : i = 0 ∨ ∃ y, D[i - 1]? = some y ∧ y.t ≠ x.t) (hr : D.length ≤ i + 1 ∨ ∃ y, D[i + 1]? = some y ∧ y.t ≠ x.t) : twiceG Fx.t D i = false := by
  unfold twiceG
  rw [Bool.or_eq_false_iff, hx]
  constructor
  · rcases hl with h | ⟨y, hy, hn⟩
    · simp [h]
    · rw [hy]; simp [hn]
  · rcases hr with h | ⟨y, hy, hn⟩
    · simp; omega
    · rw [hy]; simp [hn]
theorem run_iss {D : List Fx} {m1 : Int} : ∀ m, ∀ p ∈ (runG Fx.t (nearB m1) D m).2.2, (1 ≤ p.1 ∧ p.1 ≤ 3) ∧ ∃ f ∈ D, p.2 = f.t
  | 0, p, h => by simp [runG] at h
  | m + 1, p, h => by
    have ih := run_iss (D := D) (m1 := m1) m
    have hrow := fun g (hg : g ∈ (runG Fx.t (nearB m1) D m).2.1) => row_mem (t := Fx.t) (near := nearB m1) hg
    rw [runG] at h
    generalize runG Fx.t (nearB m1) D m = s at h ih hrow
    unfold stepG at h
    cases hf : D[m]? with
    | none => rw [hf] at h; exact ih p h
    | some f =>
      rw [hf] at h
      have hfm := List.mem_of_getElem? hf
      simp only at h
      have hoff : ∀ (A : List Fx), (∀ g ∈ A, g ∈ D) → ∀ q ∈ offsG Fx.t A, (1 ≤ q.1 ∧ q.1 ≤ 3) ∧ ∃ f ∈ D, q.2 = f.t := fun A hA q hq => by
        obtain ⟨g, hg, rfl⟩ := List.mem_map.1 hq
        exact ⟨⟨(by decide : (1 : Int) ≤ 2), (by decide : (2 : Int) ≤ 3)⟩, g, hA g hg, rfl⟩
      have hrf : ∀ g ∈ s.2.1 ++ [f], g ∈ D := fun g hg => by
        rcases List.mem_append.1 hg with hg | hg
        · exact hrow g hg
        · rw [List.mem_singleton.1 hg]; exact hfm
      split at h
      · rcases List.mem_append.1 h with h | h
        · exact ih p h
        · rw [List.mem_singleton.1 h]; exact ⟨⟨(by decide : (1 : Int) ≤ 1), (by decide : (1 : Int) ≤ 3)⟩, f, hfm, rfl⟩
      · unfold takeG at h
        split at h
        · rcases List.mem_append.1 h with h | h
          · exact ih p h
          · exact hoff _ hrow p h
        · split at h
          · rcases List.mem_append.1 h with h | h
            · rcases List.mem_append.1 h with h | h
              · exact ih p h
              · exact hoff _ (fun g hg => hrf g (List.mem_of_mem_take hg)) p h
            · obtain ⟨g, hg, rfl⟩ := List.mem_map.1 h
              have hg2 : g ∈ (s.2.1 ++ [f]).drop (s.2.1.length - 2) := by
                rw [Option.mem_toList] at hg
                exact List.mem_of_mem_head? hg
              exact ⟨⟨(by decide : (1 : Int) ≤ 3), (by decide : (3 : Int) ≤ 3)⟩, g, hrf g (List.mem_of_mem_drop hg2), rfl⟩
          · exact ih p h
set_option maxRecDepth 100000 in
set_option maxHeartbeats 3200000 in
theorem xClean_ok (v : Value) (xs : List Fx) (m0 m1 m2 m3 : Int) (w : World) (hv : FxV w v xs) (hn : xs.length ≤ 1000) (hr : rulesB m0 m1 m2 m3 = true) (hok : ∀ p ∈ xs, p.ok = true) :
    Calls Try.prog 65 #[v, .agg #[.int .i64 m0, .int .i64 m1, .int .i64 m2, .int .i64 m3]] w fun r w' => (∃ kv iv D Z, r = .returned (.tuple #[kv, iv, .int .i64 0]) ∧ Once xs D ∧ OwnF w' w.heap.size kv (cleanK m1 D) ∧ IssV w' iv Z ∧ Z.Perm (cleanI m1 D) ∧ issUp Z) ∧ Below w.heap.size w w' := by
  have hm : 0 ≤ m1 ∧ m1 ≤ 1000000 := by simp [rulesB, inB] at hr; omega
  obtain ⟨ad, c, rfl, hrow⟩ := hv.open
  have HV := hid hv
  have HT := hid (show ∀ W, Below w.heap.size w W → Calls Try.prog 115 #[.slice ad xs.length c, .agg #[.int .i64 m0, .int .i64 m1, .int .i64 m2, .int .i64 m3]] W fun e w' => e = .returned (.int .i64 0) ∧ Below W.heap.size W w' from fun W h => by
    have h9 := xRefuse_any ad xs.length c (fixesF xs) m0 m1 m2 m3 W (by omega) (hrow.still h)
    rwa [show refV m0 m1 m2 m3 xs.length (fixesF xs) = 0 from refL_ok hr hok (by omega)] at h9)
  have HOK := hid hok
  have HBw := hid (Below.refl w.heap.size w)
  clear hv hrow hok hr
  obtain ⟨n, hnn⟩ : ∃ n, n = xs.length := ⟨_, rfl⟩
  rw [← hnn] at HT HV hn ⊢
  have HN := hid hnn
  clear hnn
  go_enter Try.func65, Try.ntmps65
  go_wp2_with fail
  have hB9 := HBw.out
  refine (HT.out _ (by (repeat' (first | (with_reducible exact Below.refl _ _) | (with_reducible assumption) | (with_reducible refine Below.alloc ?_ ?_ _) | (with_reducible refine Below.drew ?_) | (with_reducible refine below_drewN ?_ _) | (with_reducible refine Below.setCell ?_ ?_ _) | (with_reducible refine below_setRow ?_ ?_ _) | go_size)))).mono ?_
  rintro r w1 ⟨rfl, hb⟩
  have HBw1 := hid (show Below w.heap.size w w1 by have hB0 := HBw.out; refine Below.trans ?_ (hb.mono ?_); (focus ((repeat' (first | (with_reducible exact Below.refl _ _) | (with_reducible assumption) | (with_reducible refine Below.alloc ?_ ?_ _) | (with_reducible refine Below.drew ?_) | (with_reducible refine below_drewN ?_ _) | (with_reducible refine Below.setCell ?_ ?_ _) | (with_reducible refine below_setRow ?_ ?_ _) | go_size)); done)); (focus (first | (simp; done) | (simp; omega) | (have hB1 := hB0.size; simp; omega))))
  have hsw1 := hb.size
  (try simp at hsw1)
  have hzw1 : w.heap.size < w1.heap.size := by omega
  obtain ⟨hcw1, hfw1⟩ := bcell hb
  have hkw1 := hid (fun n x => @heap_still _ _ n x hb)
  clear hb
  clear hB9
  go_wp2_with fail
  refine (cloneFx_any _ xs w1 (HV.out.still HBw1.out) (by rw [← HN.out]; omega)).mono ?_
  rintro r w2 ⟨⟨v2, rfl, ho2⟩, hb2⟩
  have HO2 := hid ho2
  have HB2 := hid (HBw1.out.trans (hb2.mono HBw1.out.size))
  have HS1 := hid hzw1
  have HM1 := hid (hkw1.out _ _ (by repeat' (first | (refine heap_alloc_at _ _ _ ?_; (first | rfl | (simp; done) | (simp; omega))) | (refine heap_alloc_past _ _ _ _ ?_))) : w1.heap[w.heap.size]? = some (.cells #[.int .i64 m0, .int .i64 m1, .int .i64 m2, .int .i64 m3] 61))
  have HY2 := hid hb2
  have HM2 := hid (hb2.size)
  clear ho2 hb2
  go_wp2_with fail
  refine (sortFx_any v2 xs w1.heap.size w2 HO2.out (by rw [← HN.out]; omega) (fun p hp => Fx.ok_fine (HOK.out p hp))).mono ?_
  rintro r w3 ⟨rfl, S, hp3, hs3, ho3, hg3⟩
  have HO3 := hid ho3
  have HS3 := hid hs3
  have HP3 := hid hp3
  have HB3 := hid (HB2.out.grown hg3 (by have := HB2.out.size; omega) (fun k hk => by have := OwnR.ownBlock HO2.out k hk; have := HBw1.out.size; omega))
  have HY3 := hid (HY2.out.grown hg3 HY2.out.size (fun k hk => OwnR.ownBlock HO2.out k hk))
  have HZ3 := hid (show w1.heap.size ≤ w3.heap.size by have := hg3.size; have := HM2.out; omega)
  clear ho3 hs3 hp3 hg3
  go_wp2_with fail
  refine (compactFx_any v2 S w1.heap.size w3 HO3.out (by rw [HP3.out.length_eq, ← HN.out]; omega)).mono ?_
  rintro r w4 ⟨v4, rfl, ho4, hg4, -⟩
  obtain ⟨D, hD⟩ : ∃ D, D = ddU S S.length := ⟨_, rfl⟩
  rw [← hD] at ho4
  have hone : Once xs D := hD ▸ Once.of_sort HP3.out HS3.out
  have hdn : D.length ≤ 1000 := by have h1 := ddU_len S S.length (Nat.le_refl _); rw [← hD, HP3.out.length_eq, ← HN.out] at h1; omega
  obtain ⟨a4, c4, hv4⟩ := OwnR.slice ho4
  rw [List.length_map] at hv4
  obtain ⟨n4, hn4⟩ : ∃ n4, n4 = D.length := ⟨_, rfl⟩
  rw [← hn4] at hv4 hdn
  subst hv4
  have HO4 := hid ho4
  have HONE := hid hone
  have HDN := hid hn4
  have HB4 := hid (HB3.out.grown hg4 (by have := HB3.out.size; omega) (fun k hk => by have := OwnR.ownBlock HO3.out k hk; have := HBw1.out.size; omega))
  have HY4 := hid (HY3.out.grown hg4 HY3.out.size (fun k hk => OwnR.ownBlock HO3.out k hk))
  have HM4 := hid (heap_still HY4.out HM1.out)
  have HZ4 := hid (show w1.heap.size ≤ w4.heap.size by have := hg4.size; have := HZ3.out; omega)
  have hxok : ∀ p ∈ D, p.ok = true := fun p hp => HOK.out p ((hone.2 p).1 hp)
  have HDOK := hid hxok
  clear ho4 hg4 hD hone hn4 hxok
  have cm0 : w4.cell? ⟨w.heap.size, 0, none⟩ = some (.int .i64 m0) := (cell_row (j := 0) HM4.out).trans rfl
  have cm1 : w4.cell? ⟨w.heap.size, 1, none⟩ = some (.int .i64 m1) := (cell_row (j := 1) HM4.out).trans rfl
  have cm2 : w4.cell? ⟨w.heap.size, 2, none⟩ = some (.int .i64 m2) := (cell_row (j := 2) HM4.out).trans rfl
  have cm3 : w4.cell? ⟨w.heap.size, 3, none⟩ = some (.int .i64 m3) := (cell_row (j := 3) HM4.out).trans rfl
  clear HBw1 HBw HB2 HB3 HO2 HO3 HS3 HP3 HY2 HY3 HZ3 HM2 hsw1 hzw1 hkw1 hcw1 hfw1 HV HT
  go_wp2_with fail
  clear cm0 cm1 cm2 cm3
  go_loopw [29] (fun iv W => ∃ i : Nat, i ≤ n4 ∧ iv = .int .i64 (i : Int) ∧ Cl W w4.heap.size w4.heap.size m0 m1 m2 m3 (runG Fx.t (nearB m1) D i) ∧ Below w4.heap.size w4 W) (fun iv _ => n4 - (intOf iv).toNat)
  case atStart => exact ⟨0, by omega, rfl, ⟨_, _, _, ⟨(by repeat' (first | (refine heap_alloc_at _ _ _ ?_; (first | rfl | (simp; done) | (simp; omega))) | (refine heap_alloc_past _ _ _ _ ?_))), Nat.le_refl _, OwnR.nil _ _ _ _, OwnR.nil _ _ _ _, OwnR.nil _ _ _ _, fun _ h => by simp [Value.ownBlock] at h⟩⟩, (Below.refl _ _).alloc (Nat.le_refl _) _⟩
  case round =>
    obtain ⟨i, hi, rfl, hC, hB⟩ := hrel
    have HB := hid hB
    have hsm := run_small (t := Fx.t) (near := nearB m1) D i
    have hko : ∀ p ∈ (runG Fx.t (nearB m1) D i).1, p.ok = true := fun p hp => HDOK.out p (kept_mem hp)
    have hro : ∀ p ∈ (runG Fx.t (nearB m1) D i).2.1, p.ok = true := fun p hp => HDOK.out p (row_mem hp)
    by_cases hlt : i < n4
    · obtain ⟨s, hs⟩ : ∃ s, s = runG Fx.t (nearB m1) D i := ⟨_, rfl⟩
      rw [← hs] at hC hsm hko hro
      obtain ⟨K, R, I⟩ := s
      obtain ⟨kv, rv, iv, hcl⟩ := hC
      simp only at hcl hsm hko hro
      have HCL := hid hcl
      have HKO := hid hko
      have HRO := hid hro
      have HRUN := hid hs.symm
      have HIL := hid (show I.length ≤ 1000000 by omega)
      have HIR := hid (show I.length + R.length ≤ 100000 by omega)
      have HKL := hid (show K.length ≤ 100000 by omega)
      clear hs hcl hko hro hsm hB
      have e3 : decide ((i : Int) < (n4 : Int)) = true := decide_eq_true (by omega)
      obtain ⟨x, hx⟩ : ∃ x, D[i]? = some x := ⟨_, List.getElem?_eq_getElem (by rw [← HDN.out]; exact hlt)⟩
      obtain ⟨b4, ha4, hrow, hbl⟩ := own_at HO4.out hx
      subst ha4
      have HX := hid hx
      have HROW := hid hrow
      have hc := row_of (hrow.still HB.out hbl) hx (i * 10) rfl
      clear hx hrow
      go_upto_region 11 with (first | (refine fx_load rfl 55 (.tmp 32) rfl b4 (i * 10) rfl x hc Try.underlying55 rfl size55f ?_) | (refine wpList_store_new rfl 55 (.tmp 11) (.tmp 33) rfl rfl rfl rfl size55f (row_arr x) rfl rfl ?_))
      refine gen_world (fun W0 hW0 => ?_)
      have KB := hid (show W0.heap[wr.heap.size]? = some (.cells x.row.toArray 55) by rw [hW0]; exact heap_alloc_at _ _ _ rfl)
      have HB0Q := hid (show Below wr.heap.size wr W0 by rw [hW0]; exact (Below.refl _ _).alloc (Nat.le_refl _) _)
      have HB0 := hid (HB.out.trans (HB0Q.out.mono HB.out.size))
      clear hW0 hc
      have ct := fun d os => cell_regrown (w := W0) (a := ⟨wr.heap.size, 0, none⟩) (v := .int .i64 x.t) ((cell_row (j := 0) KB.out).trans rfl) d os
      have HRW := hid (HROW.out.still HB0.out hbl)
      by_cases hl : i = 0
      · have d0 : decide ((0 : Int) < (i : Int)) = false := decide_eq_false (by omega)
        have hi0 : ¬ 0 < i := by omega
        have d0n : decide (0 < i) = false := decide_eq_false hi0
        have HL0 := hid hl
        clear hl
        by_cases hr : i + 1 < n4
        · obtain ⟨z, hz⟩ : ∃ z, D[i + 1]? = some z := ⟨_, List.getElem?_eq_getElem (by rw [← HDN.out]; omega)⟩
          have cz := fun d os => cell_regrown (w := W0) (a := ⟨b4, (i + 1) * 10, none⟩) (v := .int .i64 z.t) (row_of HRW.out hz ((i + 1) * 10) rfl 0 (by decide)) d os
          have d1 : decide ((i : Int) + 1 < (n4 : Int)) = true := decide_eq_true (by omega)
          by_cases hzt : z.t = x.t
          · have ez : (z.t == x.t) = true := by simpa using hzt
            have fz : decide (z.t = x.t) = true := by simpa using hzt
            have HTW := hid (show twiceG Fx.t D i = true from tw_right (by rw [← HDN.out]; exact hr) HX.out hz hzt)
            clear HRW HB hzt hz
            refine wp_region_quiet_below (by kernel_rfl) (by kernel_rfl) ?_
            repeat (first | go_big_quiet_step (fail) | quiet_step (fail))
            refine wpQuiet_nil ?_
            intro _ hw'
            obtain ⟨⟨dqV, osV⟩, hw2⟩ := hw'
            subst hw2
            have HQV := hid (below_regrown W0 dqV osV)
            generalize Sort.grow (redrawn W0 dqV) osV = V at HQV ⊢
            have hsV := HQV.out.size
            have HBV := hid (HB0.out.trans (HQV.out.mono (by have h1 := HB0.out.size; omega)))
            have HCV := hid ((HCL.out.still HB0Q.out).still HQV.out)
            have KBV := hid (heap_still HQV.out KB.out)
            clear HQV HB0Q KB
            go_wp2_with (refine wpList_load_at rfl 55 (.tmp 11) rfl rfl KBV.out Try.underlying55 rfl size55f (row_arr x) ?_)
            refine (issue_any w4.heap.size w4.heap.size m0 m1 m2 m3 1 K R I _ _ _ x _ HCV.out HIL.out).mono ?_
            rintro r9 w9 ⟨rfl, ⟨iv9, hc9⟩, hb9, _⟩
            have HC9 := hid hc9
            have HB9 := hid (HBV.out.trans hb9)
            clear hc9 hb9
            go_wp2_with fail
            refine ⟨⟨i + 1, by omega, by go_num, ?_, HB9.out⟩, by simp [intOf]; omega⟩
            rw [runG, HRUN.out]
            unfold stepG
            rw [HX.out]
            simp only
            rw [if_pos HTW.out]
            exact ⟨_, _, _, HC9.out⟩
          · have ez : (z.t == x.t) = false := by simpa using hzt
            have fz : decide (z.t = x.t) = false := by simpa using hzt
            have HTW := hid (show twiceG Fx.t D i = false from tw_no HX.out (.inl HL0.out) (.inr ⟨z, hz, hzt⟩))
            clear HRW HB hzt hz
            refine wp_region_quiet_below (by kernel_rfl) (by kernel_rfl) ?_
            repeat (first | go_big_quiet_step (fail) | quiet_step (fail))
            refine wpQuiet_nil ?_
            intro _ hw'
            obtain ⟨⟨dqV, osV⟩, hw2⟩ := hw'
            subst hw2
            have HQV := hid (below_regrown W0 dqV osV)
            generalize Sort.grow (redrawn W0 dqV) osV = V at HQV ⊢
            have hsV := HQV.out.size
            have HBV := hid (HB0.out.trans (HQV.out.mono (by have h1 := HB0.out.size; omega)))
            have HCV := hid ((HCL.out.still HB0Q.out).still HQV.out)
            have KBV := hid (heap_still HQV.out KB.out)
            clear HQV HB0Q KB
            go_wp2_with (refine wpList_load_at rfl 55 (.tmp 11) rfl rfl KBV.out Try.underlying55 rfl size55f (row_arr x) ?_)
            refine (take_any w4.heap.size w4.heap.size m0 m1 m2 m3 K R I x _ ⟨_, _, _, HCV.out⟩ HIR.out HKL.out (HDOK.out x (List.mem_of_getElem? HX.out)) hm HKO.out HRO.out).mono ?_
            rintro r9 w9 ⟨rfl, hc9, hb9⟩
            have HC9 := hid hc9
            have HB9 := hid (HBV.out.trans hb9)
            clear hc9 hb9
            go_wp2_with fail
            refine ⟨⟨i + 1, by omega, by go_num, ?_, HB9.out⟩, by simp [intOf]; omega⟩
            rw [runG, HRUN.out]
            unfold stepG
            rw [HX.out]
            simp only
            rw [if_neg (by rw [HTW.out]; decide)]
            exact HC9.out
        · have d1 : decide ((i : Int) + 1 < (n4 : Int)) = false := decide_eq_false (by omega)
          have HTW := hid (show twiceG Fx.t D i = false from tw_no HX.out (.inl HL0.out) (.inl (by rw [← HDN.out]; omega)))
          clear HRW HB
          refine wp_region_quiet_below (by kernel_rfl) (by kernel_rfl) ?_
          repeat (first | go_big_quiet_step (fail) | quiet_step (fail))
          refine wpQuiet_nil ?_
          intro _ hw'
          obtain ⟨⟨dqV, osV⟩, hw2⟩ := hw'
          subst hw2
          have HQV := hid (below_regrown W0 dqV osV)
          generalize Sort.grow (redrawn W0 dqV) osV = V at HQV ⊢
          have hsV := HQV.out.size
          have HBV := hid (HB0.out.trans (HQV.out.mono (by have h1 := HB0.out.size; omega)))
          have HCV := hid ((HCL.out.still HB0Q.out).still HQV.out)
          have KBV := hid (heap_still HQV.out KB.out)
          clear HQV HB0Q KB
          go_wp2_with (refine wpList_load_at rfl 55 (.tmp 11) rfl rfl KBV.out Try.underlying55 rfl size55f (row_arr x) ?_)
          refine (take_any w4.heap.size w4.heap.size m0 m1 m2 m3 K R I x _ ⟨_, _, _, HCV.out⟩ HIR.out HKL.out (HDOK.out x (List.mem_of_getElem? HX.out)) hm HKO.out HRO.out).mono ?_
          rintro r9 w9 ⟨rfl, hc9, hb9⟩
          have HC9 := hid hc9
          have HB9 := hid (HBV.out.trans hb9)
          clear hc9 hb9
          go_wp2_with fail
          refine ⟨⟨i + 1, by omega, by go_num, ?_, HB9.out⟩, by simp [intOf]; omega⟩
          rw [runG, HRUN.out]
          unfold stepG
          rw [HX.out]
          simp only
          rw [if_neg (by rw [HTW.out]; decide)]
          exact HC9.out
      · obtain ⟨y, hy⟩ : ∃ y, D[i - 1]? = some y := ⟨_, List.getElem?_eq_getElem (by rw [← HDN.out]; omega)⟩
        have cy := fun d os => cell_regrown (w := W0) (a := ⟨b4, (i - 1) * 10, none⟩) (v := .int .i64 y.t) (row_of HRW.out hy ((i - 1) * 10) rfl 0 (by decide)) d os
        have hi0 : 0 < i := by omega
        have d0 : decide ((0 : Int) < (i : Int)) = true := decide_eq_true (by omega)
        by_cases hyt : y.t = x.t
        · have ey : (y.t == x.t) = true := by simpa using hyt
          have fy : decide (y.t = x.t) = true := by simpa using hyt
          have HTW := hid (show twiceG Fx.t D i = true from tw_left hi0 HX.out hy hyt)
          clear HRW HB hy hyt
          refine wp_region_quiet_below (by kernel_rfl) (by kernel_rfl) ?_
          repeat (first | go_big_quiet_step (fail) | quiet_step (fail))
          refine wpQuiet_nil ?_
          intro _ hw'
          obtain ⟨⟨dqV, osV⟩, hw2⟩ := hw'
          subst hw2
          have HQV := hid (below_regrown W0 dqV osV)
          generalize Sort.grow (redrawn W0 dqV) osV = V at HQV ⊢
          have hsV := HQV.out.size
          have HBV := hid (HB0.out.trans (HQV.out.mono (by have h1 := HB0.out.size; omega)))
          have HCV := hid ((HCL.out.still HB0Q.out).still HQV.out)
          have KBV := hid (heap_still HQV.out KB.out)
          clear HQV HB0Q KB
          go_wp2_with (refine wpList_load_at rfl 55 (.tmp 11) rfl rfl KBV.out Try.underlying55 rfl size55f (row_arr x) ?_)
          refine (issue_any w4.heap.size w4.heap.size m0 m1 m2 m3 1 K R I _ _ _ x _ HCV.out HIL.out).mono ?_
          rintro r9 w9 ⟨rfl, ⟨iv9, hc9⟩, hb9, _⟩
          have HC9 := hid hc9
          have HB9 := hid (HBV.out.trans hb9)
          clear hc9 hb9
          go_wp2_with fail
          refine ⟨⟨i + 1, by omega, by go_num, ?_, HB9.out⟩, by simp [intOf]; omega⟩
          rw [runG, HRUN.out]
          unfold stepG
          rw [HX.out]
          simp only
          rw [if_pos HTW.out]
          exact ⟨_, _, _, HC9.out⟩
        · have ey : (y.t == x.t) = false := by simpa using hyt
          have fy : decide (y.t = x.t) = false := by simpa using hyt
          by_cases hr : i + 1 < n4
          · obtain ⟨z, hz⟩ : ∃ z, D[i + 1]? = some z := ⟨_, List.getElem?_eq_getElem (by rw [← HDN.out]; omega)⟩
            have cz := fun d os => cell_regrown (w := W0) (a := ⟨b4, (i + 1) * 10, none⟩) (v := .int .i64 z.t) (row_of HRW.out hz ((i + 1) * 10) rfl 0 (by decide)) d os
            have d1 : decide ((i : Int) + 1 < (n4 : Int)) = true := decide_eq_true (by omega)
            by_cases hzt : z.t = x.t
            · have ez : (z.t == x.t) = true := by simpa using hzt
              have fz : decide (z.t = x.t) = true := by simpa using hzt
              have HTW := hid (show twiceG Fx.t D i = true from tw_right (by rw [← HDN.out]; exact hr) HX.out hz hzt)
              clear HRW HB hzt hz hy hyt
              refine wp_region_quiet_below (by kernel_rfl) (by kernel_rfl) ?_
              repeat (first | go_big_quiet_step (fail) | quiet_step (fail))
              refine wpQuiet_nil ?_
              intro _ hw'
              obtain ⟨⟨dqV, osV⟩, hw2⟩ := hw'
              subst hw2
              have HQV := hid (below_regrown W0 dqV osV)
              generalize Sort.grow (redrawn W0 dqV) osV = V at HQV ⊢
              have hsV := HQV.out.size
              have HBV := hid (HB0.out.trans (HQV.out.mono (by have h1 := HB0.out.size; omega)))
              have HCV := hid ((HCL.out.still HB0Q.out).still HQV.out)
              have KBV := hid (heap_still HQV.out KB.out)
              clear HQV HB0Q KB
              go_wp2_with (refine wpList_load_at rfl 55 (.tmp 11) rfl rfl KBV.out Try.underlying55 rfl size55f (row_arr x) ?_)
              refine (issue_any w4.heap.size w4.heap.size m0 m1 m2 m3 1 K R I _ _ _ x _ HCV.out HIL.out).mono ?_
              rintro r9 w9 ⟨rfl, ⟨iv9, hc9⟩, hb9, _⟩
              have HC9 := hid hc9
              have HB9 := hid (HBV.out.trans hb9)
              clear hc9 hb9
              go_wp2_with fail
              refine ⟨⟨i + 1, by omega, by go_num, ?_, HB9.out⟩, by simp [intOf]; omega⟩
              rw [runG, HRUN.out]
              unfold stepG
              rw [HX.out]
              simp only
              rw [if_pos HTW.out]
              exact ⟨_, _, _, HC9.out⟩
            · have ez : (z.t == x.t) = false := by simpa using hzt
              have fz : decide (z.t = x.t) = false := by simpa using hzt
              have HTW := hid (show twiceG Fx.t D i = false from tw_no HX.out (.inr ⟨y, hy, hyt⟩) (.inr ⟨z, hz, hzt⟩))
              clear HRW HB hzt hz hy hyt
              refine wp_region_quiet_below (by kernel_rfl) (by kernel_rfl) ?_
              repeat (first | go_big_quiet_step (fail) | quiet_step (fail))
              refine wpQuiet_nil ?_
              intro _ hw'
              obtain ⟨⟨dqV, osV⟩, hw2⟩ := hw'
              subst hw2
              have HQV := hid (below_regrown W0 dqV osV)
              generalize Sort.grow (redrawn W0 dqV) osV = V at HQV ⊢
              have hsV := HQV.out.size
              have HBV := hid (HB0.out.trans (HQV.out.mono (by have h1 := HB0.out.size; omega)))
              have HCV := hid ((HCL.out.still HB0Q.out).still HQV.out)
              have KBV := hid (heap_still HQV.out KB.out)
              clear HQV HB0Q KB
              go_wp2_with (refine wpList_load_at rfl 55 (.tmp 11) rfl rfl KBV.out Try.underlying55 rfl size55f (row_arr x) ?_)
              refine (take_any w4.heap.size w4.heap.size m0 m1 m2 m3 K R I x _ ⟨_, _, _, HCV.out⟩ HIR.out HKL.out (HDOK.out x (List.mem_of_getElem? HX.out)) hm HKO.out HRO.out).mono ?_
              rintro r9 w9 ⟨rfl, hc9, hb9⟩
              have HC9 := hid hc9
              have HB9 := hid (HBV.out.trans hb9)
              clear hc9 hb9
              go_wp2_with fail
              refine ⟨⟨i + 1, by omega, by go_num, ?_, HB9.out⟩, by simp [intOf]; omega⟩
              rw [runG, HRUN.out]
              unfold stepG
              rw [HX.out]
              simp only
              rw [if_neg (by rw [HTW.out]; decide)]
              exact HC9.out
          · have d1 : decide ((i : Int) + 1 < (n4 : Int)) = false := decide_eq_false (by omega)
            have HTW := hid (show twiceG Fx.t D i = false from tw_no HX.out (.inr ⟨y, hy, hyt⟩) (.inl (by rw [← HDN.out]; omega)))
            clear HRW HB hy hyt
            refine wp_region_quiet_below (by kernel_rfl) (by kernel_rfl) ?_
            repeat (first | go_big_quiet_step (fail) | quiet_step (fail))
            refine wpQuiet_nil ?_
            intro _ hw'
            obtain ⟨⟨dqV, osV⟩, hw2⟩ := hw'
            subst hw2
            have HQV := hid (below_regrown W0 dqV osV)
            generalize Sort.grow (redrawn W0 dqV) osV = V at HQV ⊢
            have hsV := HQV.out.size
            have HBV := hid (HB0.out.trans (HQV.out.mono (by have h1 := HB0.out.size; omega)))
            have HCV := hid ((HCL.out.still HB0Q.out).still HQV.out)
            have KBV := hid (heap_still HQV.out KB.out)
            clear HQV HB0Q KB
            go_wp2_with (refine wpList_load_at rfl 55 (.tmp 11) rfl rfl KBV.out Try.underlying55 rfl size55f (row_arr x) ?_)
            refine (take_any w4.heap.size w4.heap.size m0 m1 m2 m3 K R I x _ ⟨_, _, _, HCV.out⟩ HIR.out HKL.out (HDOK.out x (List.mem_of_getElem? HX.out)) hm HKO.out HRO.out).mono ?_
            rintro r9 w9 ⟨rfl, hc9, hb9⟩
            have HC9 := hid hc9
            have HB9 := hid (HBV.out.trans hb9)
            clear hc9 hb9
            go_wp2_with fail
            refine ⟨⟨i + 1, by omega, by go_num, ?_, HB9.out⟩, by simp [intOf]; omega⟩
            rw [runG, HRUN.out]
            unfold stepG
            rw [HX.out]
            simp only
            rw [if_neg (by rw [HTW.out]; decide)]
            exact HC9.out
    · have e3 : decide ((i : Int) < (n4 : Int)) = false := decide_eq_false (by omega)
      have hiD : i = D.length := by rw [← HDN.out]; omega
      obtain ⟨s, hs⟩ : ∃ s, s = runG Fx.t (nearB m1) D i := ⟨_, rfl⟩
      have hiss := run_iss (D := D) (m1 := m1) i
      rw [← hs] at hC hsm hko hro hiss
      have hrm : ∀ p ∈ s.2.1, p ∈ D := fun p hp => row_mem (t := Fx.t) (near := nearB m1) (m := i) (by rw [← hs]; exact hp)
      have HCK := hid (show cleanK m1 D = s.1 by unfold cleanK; rw [← hiD, ← hs])
      have HCI := hid (show cleanI m1 D = s.2.2 ++ offsG Fx.t s.2.1 by unfold cleanI; rw [← hiD, ← hs])
      clear hs hko hro hB hiD
      obtain ⟨K, R, I⟩ := s
      obtain ⟨kv, rv, iv, hcl⟩ := hC
      simp only at hcl hsm hiss hrm HCK HCI
      have HCL := hid hcl
      have HISS := hid (show ∀ p ∈ I ++ offs R, issOk p from fun p hp => by
        have hb : ∀ f ∈ D, 0 ≤ f.t ∧ f.t ≤ 1125899906842624 := fun f hf => (Fx.ok_bounds (HDOK.out f hf)).1
        rcases List.mem_append.1 hp with hp | hp
        · obtain ⟨h1, f, hf, h2⟩ := hiss p hp
          exact ⟨h1, by rw [h2]; exact hb f hf⟩
        · obtain ⟨f, hf, rfl⟩ := List.mem_map.1 hp
          exact ⟨⟨(by decide : (1 : Int) ≤ 2), (by decide : (2 : Int) ≤ 3)⟩, hb f (hrm f hf)⟩)
      clear hcl hiss hrm
      have HOL := hid (show (offs R).length = R.length by simp [offs])
      go_wp2_with fail
      refine (drop_any w4.heap.size w4.heap.size m0 m1 m2 m3 K R I kv rv iv _ HCL.out (by omega)).mono ?_
      rintro r9 w5 ⟨rfl, ⟨iv9, hc9⟩, hb9, -⟩
      have HC9 := hid hc9
      have HB9 := hid (HB.out.trans hb9)
      have c6 : w5.cell? ⟨w4.heap.size, 6, none⟩ = some iv9 := hc9.c6
      clear hc9 hb9
      go_wp2_with fail
      clear c6
      refine (sortIss_any w4.heap.size iv9 (I ++ offs R) w5 HC9.out.i (by rw [List.length_append, HOL.out]; omega) HISS.out).mono ?_
      rintro r9 w6 ⟨rfl, ⟨Z, hp6, hu6, hz6⟩, hg6⟩
      have HG6 := hid ((hg6.block w4.heap.size HC9.out.lt (fun e => own_not HC9.out.i HC9.out.hg (by decide) e.symm)).trans HC9.out.hg)
      have HK6 := hid (HC9.out.k.same (fun k9 e => hg6.block k9 (own_blocks_lt HC9.out.k e) (fun e2 => own_apart HC9.out.i HC9.out.k (by decide) k9 e2.symm e)))
      have HB6 := hid (below_grown HB9.out hg6 (fun k9 hk9 => OwnR.ownBlock HC9.out.i k9 hk9) HB9.out.size)
      have HZ6 := hid hz6
      have HU6 := hid hu6
      have HP6 := hid hp6
      clear hg6 hz6 hu6 hp6
      have cq4 := fun d os => cell_regrown (w := w6) (a := ⟨w4.heap.size, 4, none⟩) (v := kv) ((cell_row (j := 4) HG6.out).trans rfl) d os
      have cq6 := fun d os => cell_regrown (w := w6) (a := ⟨w4.heap.size, 6, none⟩) (v := iv9) ((cell_row (j := 6) HG6.out).trans rfl) d os
      go_wp2_with fail
      refine wp_region_quiet_below (by kernel_rfl) (by kernel_rfl) ?_
      repeat (first | go_big_quiet_step (fail) | quiet_step (fail))
      refine wpQuiet_nil ?_
      intro _ hw'
      obtain ⟨⟨dqV, osV⟩, hw2⟩ := hw'
      subst hw2
      have HQV := hid (below_regrown w6 dqV osV)
      generalize Sort.grow (redrawn w6 dqV) osV = V at HQV ⊢
      have hsV := HQV.out.size
      go_wp2_with fail
      go_ret3
      have hlow : w.heap.size ≤ w4.heap.size := by have h1 := HZ4.out; have h2 := HS1.out; omega
      refine ⟨⟨kv, iv9, D, Z, rfl, HONE.out, ?_, HZ6.out.still HQV.out, ?_, HU6.out⟩, HB4.out.trans ((HB6.out.trans (HQV.out.mono HB6.out.size)).mono hlow)⟩
      · rw [HCK.out]
        exact (OwnR.grow HK6.out HQV.out).mono hlow
      · rw [HCI.out]
        exact HP6.out
end Go.Proofs.Yteoikaedpgianaa
