/- Fixes sorted by the program's order (117), cloned (116). (Printed by wip/gen_fxb.py.) The library's Compact at fixes (119). -/
import Derived.Test.YteoikaedpgianaaRFxA
import Derived.Lib.SliceRun
import Derived.Test.YteoikaedpgianaaRPart
import Derived.Test.YteoikaedpgianaaRFlat
import Derived.Lib.QuietBelow
namespace Go.Proofs.Yteoikaedpgianaa
open Go.RowKit Go.Sort Go.Lib Go.Shelf Go.Proofs

/-- the same on lists of numbers -/
def cmpL : List Int → List Int → Int
  | a :: l, b :: m => if a = b then cmpL l m else a - b
  | _, _ => 0
theorem cmpL_self : ∀ l, cmpL l l = 0
  | [] => rfl
  | a :: l => by rw [cmpL, if_pos rfl, cmpL_self l]
theorem cmpL_zero : ∀ {l m : List Int}, l.length = m.length → cmpL l m = 0 → l = m
  | [], [], _, _ => rfl
  | a :: l, b :: m, hl, h => by
    rw [cmpL] at h
    split at h
    · rename_i e
      rw [e, cmpL_zero (by simpa using hl) h]
    · omega
  | [], _ :: _, hl, _ => by simp at hl
  | _ :: _, [], hl, _ => by simp at hl
theorem cmpL_swap : ∀ {l m : List Int}, l.length = m.length → cmpL m l = - cmpL l m
  | [], [], _ => rfl
  | a :: l, b :: m, hl => by
    rw [cmpL, cmpL]
    by_cases e : a = b
    · rw [if_pos e, if_pos e.symm, cmpL_swap (by simpa using hl)]
    · rw [if_neg e, if_neg (Ne.symm e)]; omega
  | [], _ :: _, hl => by simp at hl
  | _ :: _, [], hl => by simp at hl
theorem cmpL_trans : ∀ {l m n : List Int}, l.length = m.length → m.length = n.length → cmpL l m ≤ 0 → cmpL m n ≤ 0 → cmpL l n ≤ 0
  | [], [], [], _, _, _, _ => by simp [cmpL]
  | a :: l, b :: m, c :: n, h1, h2, h3, h4 => by
    rw [cmpL] at h3 h4 ⊢
    have h1' : l.length = m.length := by simpa using h1
    have h2' : m.length = n.length := by simpa using h2
    by_cases e1 : a = b
    · by_cases e2 : b = c
      · rw [if_pos e1] at h3
        rw [if_pos e2] at h4
        rw [if_pos (e1.trans e2)]
        exact cmpL_trans h1' h2' h3 h4
      · rw [if_neg e2] at h4
        rw [if_neg (by omega)]
        omega
    · rw [if_neg e1] at h3
      by_cases e2 : b = c
      · rw [if_neg (by omega)]; omega
      · rw [if_neg e2] at h4
        rw [if_neg (by omega)]; omega
  | [], [], _ :: _, _, h2, _, _ => by simp at h2
  | [], _ :: _, _, h1, _, _, _ => by simp at h1
  | _ :: _, [], _, h1, _, _, _ => by simp at h1
  | _ :: _, _ :: _, [], _, h2, _, _ => by simp at h2
def Fx.ints (p : Fx) : List Int := [p.t, p.x, p.y, p.z, p.e, p.a, p.b, p.c, p.d, p.g]
theorem cmpF_ints (p q : Fx) : cmpF p q = cmpL p.ints q.ints := rfl
theorem Fx.ints_inj {p q : Fx} (h : p.ints = q.ints) : p = q := by
  obtain ⟨a0, a1, a2, a3, a4, a5, a6, a7, a8, a9⟩ := p
  obtain ⟨b0, b1, b2, b3, b4, b5, b6, b7, b8, b9⟩ := q
  simp [Fx.ints] at h
  simp [h]
/-- p lies before q -/
def Fx.lt (p q : Fx) : Prop := cmpF p q < 0
instance (p q : Fx) : Decidable (p.lt q) := inferInstanceAs (Decidable (_ < _))
theorem Fx.lt_irrefl (p : Fx) : ¬ p.lt p := by unfold Fx.lt; rw [cmpF_ints, cmpL_self]; omega
theorem Fx.swap (p q : Fx) : cmpF q p = - cmpF p q := by rw [cmpF_ints, cmpF_ints]; exact cmpL_swap rfl
theorem Fx.le_trans {p q r : Fx} (h1 : ¬ q.lt p) (h2 : ¬ r.lt q) : ¬ r.lt p := by
  unfold Fx.lt at *
  rw [Fx.swap] at h1 h2 ⊢
  have := cmpL_trans (l := p.ints) (m := q.ints) (n := r.ints) rfl rfl (by rw [← cmpF_ints]; omega) (by rw [← cmpF_ints]; omega)
  rw [← cmpF_ints] at this
  omega
theorem Fx.eq_of {p q : Fx} (h1 : ¬ p.lt q) (h2 : ¬ q.lt p) : p = q := by
  unfold Fx.lt at *
  rw [Fx.swap p q] at h2
  exact Fx.ints_inj (cmpL_zero rfl (by rw [← cmpF_ints]; omega))
theorem Fx.lt_trans {p q r : Fx} (h1 : p.lt q) (h2 : q.lt r) : p.lt r := by
  by_cases h : p.lt r
  · exact h
  · exfalso
    have h3 : ¬ r.lt q := by unfold Fx.lt at *; rw [Fx.swap]; omega
    have h4 : ¬ r.lt p ∨ r.lt p := by by_cases g : r.lt p; (· exact .inr g); (· exact .inl g)
    rcases h4 with h4 | h4
    · have e := Fx.eq_of h h4
      subst e
      exact h3 h1
    · exact (Fx.le_trans (p := q) (q := r) (r := p) h3 h) h1
/-- the time is the first thing that is compared -/
theorem Fx.time_le {p q : Fx} (h : ¬ q.lt p) : p.t ≤ q.t := by
  unfold Fx.lt cmpF at h
  split at h
  · omega
  · omega
def FxG : Type := { p : Fx // p.fine }
instance : Inhabited FxG := ⟨⟨default, by unfold Fx.fine; decide⟩⟩
theorem cmpG_lt (p q : FxG) : ltOf (fun x y : FxG => cmpF x.1 y.1) p q = decide (p.1.lt q.1) := by
  unfold ltOf Fx.lt
  rfl
theorem cmpG_swo : SWO (ltOf (fun x y : FxG => cmpF x.1 y.1)) where
  irrefl x := by rw [cmpG_lt]; exact decide_eq_false (Fx.lt_irrefl _)
  trans x y z h1 h2 := by
    rw [cmpG_lt] at *
    exact decide_eq_true (Fx.lt_trans (of_decide_eq_true h1) (of_decide_eq_true h2))
  ntrans x y z h1 h2 := by
    rw [cmpG_lt] at *
    exact decide_eq_false (Fx.le_trans (of_decide_eq_false h2) (of_decide_eq_false h1))
def OwnF (W : World) (base : Nat) (v : Value) (l : List Fx) : Prop := OwnR W base 55 10 v (l.map Fx.row)
theorem sortFx_any (v : Value) (l : List Fx) (base : Nat) (W : World) (h : OwnF W base v l) (hn : l.length < 4611686018427387904) (hid : ∀ p ∈ l, p.fine) :
    Calls Try.prog 117 #[v, .func (.func 118) #[] #[]] W fun e w' => e = .returned (.tuple #[]) ∧ ∃ l' : List Fx, l'.Perm l ∧ l'.Pairwise (fun p q => ¬ q.lt p) ∧ OwnF w' base v l' ∧ W.grownBy w' v.ownBlock := by
  obtain ⟨lg, hlg⟩ : ∃ lg : List FxG, lg.map (·.1) = l := ⟨_, pmap_val l hid⟩
  subst hlg
  rw [List.length_map] at hn
  have h' : OwnR W base 55 10 v (lg.map (fun p : FxG => p.1.row)) := by unfold OwnF at h; rw [List.map_map] at h; exact h
  have hc := sort_own sortFxL 10 Try.isAgg55 Try.sizeOf55 (fun p : FxG => p.1.row) (fun _ => rfl) (fun p => Fx.row_one p.1) (fun x y : FxG => cmpF x.1 y.1) cmpG_swo 118 #[] (enters_of Try.func118 (by kernel_rfl) rfl) (fun _ _ _ _ _ _ _ x y => order_any x.1 y.1 x.2 y.2 _) W base 55 v lg h' hn
  refine Calls.mono (show Calls Try.prog 117 _ _ _ from hc) ?_
  rintro e w' ⟨rfl, l', h1, h2, h3, h4⟩
  refine ⟨rfl, l'.map (·.1), h1.map _, ?_, by unfold OwnF; rw [List.map_map]; exact h3, h4⟩
  rw [List.pairwise_map]
  refine h2.imp ?_
  intro a b hab
  rw [cmpG_lt] at hab
  exact of_decide_eq_false hab
/-- a slice of fixes -/
def FxV (W : World) (v : Value) (L : List Fx) : Prop := (v = .slice none 0 0 ∧ L = []) ∨ ∃ (ad : Addr) (cap : Nat), v = .slice (some ad) L.length cap ∧ (L = [] ∨ ∃ b off, ad = ⟨b, off, none⟩ ∧ b < W.heap.size ∧ RowsAt W b off 10 (L.map Fx.row))
theorem FxV.still {W W' : World} {v : Value} {L : List Fx} (h : FxV W v L) (hb : Below W.heap.size W W') : FxV W' v L := by
  rcases h with h | ⟨ad, cap, h1, h2⟩
  · exact .inl h
  · refine .inr ⟨ad, cap, h1, h2.imp id ?_⟩
    rintro ⟨b, off, h3, h4, h5⟩
    exact ⟨b, off, h3, Nat.lt_of_lt_of_le h4 hb.size, h5.still hb h4⟩
theorem OwnF.fxV {W : World} {base : Nat} {v : Value} {L : List Fx} (h : OwnF W base v L) : FxV W v L := by
  by_cases hl : L = []
  · subst hl
    obtain ⟨_, ⟨h1, _⟩ | ⟨g, cap, cur, h1, _⟩⟩ := h.2
    · exact .inl ⟨h1, rfl⟩
    · exact .inr ⟨_, cap, h1, .inl rfl⟩
  · obtain ⟨g, cap, cur, hv, _, hc, hr, _⟩ := h.rows (by simpa using List.length_pos_iff.2 hl)
    exact .inr ⟨_, cap, by simpa using hv, .inr ⟨g, 0, rfl, (Array.getElem?_eq_some_iff.1 hc).1, hr⟩⟩
theorem rows_wide (L : List Fx) : Wide 10 (L.map Fx.row) := wide_map (enc := Fx.row) (k := 10) (fun _ => rfl) Fx.row_one L
theorem info55f : (Try.prog.info? 55).map (fun i => (i.zero, i.size, i.bytes)) = some (some (.agg #[.int .i64 0, .int .i64 0, .int .i64 0, .int .i64 0, .int .i64 0, .int .i64 0, .int .i64 0, .int .i64 0, .int .i64 0, .int .i64 0]), 10, 80) := by kernel_rfl
set_option maxRecDepth 100000 in
set_option maxHeartbeats 800000 in
theorem cloneFx_any (v : Value) (L : List Fx) (w : World) (h : FxV w v L) (hn : L.length ≤ 1000000000) :
    Calls Try.prog 116 #[v] w fun r w' => (∃ v', r = .returned v' ∧ OwnF w' w.heap.size v' L) ∧ Below w.heap.size w w' := by
  obtain ⟨i0, hi, hz0, hz1, hz2⟩ := info_parts info55f
  have HI := hid hi
  have HZ0 := hid hz0
  have HZ1 := hid hz1
  have HZ2 := hid hz2
  clear hi hz0 hz1 hz2
  rcases h with ⟨rfl, rfl⟩ | ⟨ad, cap, rfl, hr⟩
  · have heq := fun w => Lib.run_eql_slice_nil (P := Try.prog) w 106 55 none 0 0 0 0 Try.underlying106
    go_enter Try.func116, Try.ntmps116
    go_wp2_with fail
    go_ret
    exact ⟨⟨_, rfl, OwnR.nil _ _ _ _⟩, Below.refl _ _⟩
  · obtain ⟨m, hm⟩ : ∃ m, m = L.length := ⟨_, rfl⟩
    rw [← hm] at hn ⊢
    have HM := hid hm
    have heq := fun w => Lib.run_eql_slice_nil (P := Try.prog) w 106 55 (some ad) m cap 0 0 Try.underlying106
    have hnews : ∀ j u, (L.map Fx.row).flatten[j]? = some u → w.cell? (ad.add j) = some u := by
      intro j u hu
      rcases hr with rfl | ⟨b, off, rfl, hb, hr⟩
      · simp at hu
      · exact hr.news (rows_wide L) (by decide) j u hu
    have HNEWS := hid hnews
    have HOWN := hid (show (w.alloc (.cells #[] 55)).ownsRow w.heap.size 55 10 (.slice (some ⟨w.heap.size, 0, none⟩) 0 0) 0 [] from ⟨rfl, Or.inr ⟨_, 0, #[], rfl, Nat.le_refl _, (by repeat' (first | (refine heap_alloc_at _ _ _ ?_; (first | rfl | (simp; done) | (simp; omega))) | (refine heap_alloc_past _ _ _ _ ?_))), Nat.le_refl _, by unfold maxLen; omega, rfl, rfl⟩⟩)
    clear hm hnews hr
    go_enter Try.func116, Try.ntmps116
    go_wp2_with (at_builtin; refine wpList_append_own_at _ rfl (.tmp 5) (.tmp 6) 106 rfl w.heap.size 55 i0 _ 10 80 Try.underlying106 HI.out HZ0.out HZ1.out HZ2.out rfl (by decide) _ 0 [] rfl HOWN.out ad m cap (L.map Fx.row).flatten rfl (by rw [(rows_wide L).length, List.length_map, HM.out]) (fun j u hu => by rw [((Below.refl w.heap.size w).alloc (Nat.le_refl _) _).cell (block_lt_of_cell (HNEWS.out j u hu))]; exact HNEWS.out j u hu) (rows_wide L).plain (by unfold maxLen; omega) (by omega) (by simp) ?_; intro v' w1 hown hgrow hext halt)
    go_ret
    refine ⟨⟨v', rfl, rows_wide L, ?_⟩, ?_⟩
    · rw [List.length_map, ← HM.out]
      simpa using hown
    · exact ((Below.refl _ _).alloc (Nat.le_refl _) _).grown hgrow (by simp) (fun k hk => by injection hk with hk; subst hk; exact Nat.le_refl _)
end Go.Proofs.Yteoikaedpgianaa
namespace Go.Proofs.Yteoikaedpgianaa
open Go.RowKit Go.Sort Go.Lib Go.Shelf Go.Proofs

/-- neighbours that are equal, once: of the first m -/
def ddU (S : List Fx) : Nat → List Fx
  | 0 => []
  | m + 1 => ddU S m ++ (if m = 0 ∨ S[m]? ≠ S[m - 1]? then S[m]?.toList else [])
theorem ddU_len (S : List Fx) : ∀ m, m ≤ S.length → (ddU S m).length ≤ m
  | 0, _ => Nat.le_refl _
  | m + 1, h => by
    have := ddU_len S m (by omega)
    rw [ddU, List.length_append]
    split
    · rw [List.getElem?_eq_getElem (by omega)]; simp; omega
    · simp; omega
theorem ddU_keep {S : List Fx} {m : Nat} {x : Fx} (hx : S[m]? = some x) (h : m = 0 ∨ S[m]? ≠ S[m - 1]?) : ddU S (m + 1) = ddU S m ++ [x] := by rw [ddU, if_pos h, hx]; rfl
theorem ddU_skip {S : List Fx} {m : Nat} (h0 : m ≠ 0) (h : S[m]? = S[m - 1]?) : ddU S (m + 1) = ddU S m := by rw [ddU, if_neg (by rintro (h1 | h1); (· exact h0 h1); (· exact h1 h)), List.append_nil]
theorem flat10 (p : Fx) : p.row = ints p.ints := rfl
theorem flat55f : flatOf Try.prog 10 55 = some (List.replicate 10 (some .i64)) := by kernel_rfl
theorem eqFx (p q : Fx) (W : World) : (Op.equalIn 10000 55 (.agg p.row.toArray) (.agg q.row.toArray)).run Try.prog W = .ok (decide (p = q)) W := by
  rw [equal_struct Try.underlying55 flat55f p.row q.row rfl rfl W]
  have e : sameL p.row q.row = decide (p = q) := by
    rw [flat10, flat10, sameL_ints (a := p.ints) (b := q.ints) rfl]
    by_cases h : p = q
    · subst h; simp
    · rw [decide_eq_false h]
      simp only [beq_eq_false_iff_ne]
      exact fun h2 => h (Fx.ints_inj h2)
  rw [e]
section
variable {W W' : World} {base t sz : Nat}
/-- the first k rows, whatever has become of the others -/
theorem OwnR.cut {g n k cap : Nat} {C C' : Array Value} {L : List (List Value)} (h : OwnR W base t sz (.slice (some ⟨g, 0, none⟩) n cap) L) (hk : k ≤ n) (hn : n = L.length) (hC : W.heap[g]? = some (.cells C t)) (hC' : W'.heap[g]? = some (.cells C' t)) (hs : C'.size = C.size)
    (hl : ∀ i, i < k * sz → C'[i]? = C[i]?) : OwnR W' base t sz (.slice (some ⟨g, 0, none⟩) k cap) (L.take k) := by
  subst hn
  have hlen : (L.take k).length = k := by rw [List.length_take]; omega
  have hw : Wide sz (L.take k) := fun r hr => h.1 r (List.mem_of_mem_take hr)
  refine ⟨hw, by rw [hw.length], ?_⟩
  rcases h.2.2 with ⟨h1, _⟩ | ⟨g', cap', cur, h1, hB, h2, h3, h4, h5, h6⟩
  · cases h1
  · injection h1 with e1 _ e3
    injection e1 with e1
    injection e1 with e1
    subst e1 e3
    rw [hC] at h2
    injection h2 with h2
    injection h2 with h2
    subst h2
    refine .inr ⟨g, cap, C', by rw [hlen], hB, hC', by omega, h4, by rw [hs]; exact h5, ?_⟩
    rw [hlen]
    have e : (L.take k).flatten = L.flatten.take (k * sz) := by
      have e1 : L.flatten = (L.take k).flatten ++ (L.drop k).flatten := by rw [← List.flatten_append, List.take_append_drop]
      have e2 : ((L.take k).flatten).length = k * sz := by rw [hw.length, hlen]
      rw [show L.flatten.take (k * sz) = ((L.take k).flatten ++ (L.drop k).flatten).take (k * sz) by rw [← e1]]
      exact (List.take_left' e2).symm
    rw [e, ← h6, List.take_take]
    have hks : k * sz ≤ L.length * sz := Nat.mul_le_mul_right sz hk
    rw [Nat.min_eq_left hks]
    refine List.ext_getElem? fun i => ?_
    by_cases hi : i < k * sz
    · rw [List.getElem?_take_of_lt hi, List.getElem?_take_of_lt hi, Array.getElem?_toList, Array.getElem?_toList, hl i hi]
    · have hks2 : k * sz ≤ C.size := by rw [h5]; exact Nat.le_trans hks (Nat.mul_le_mul_right sz h3)
      rw [List.getElem?_eq_none (by simp; omega), List.getElem?_eq_none (by simp; omega)]
/-- a row is put -/
theorem OwnR.put {g n k cap : Nat} {C : Array Value} {L : List (List Value)} {r : List Value} (h : OwnR W base t sz (.slice (some ⟨g, 0, none⟩) n cap) L) (hn : n = L.length) (hk : k < n) (hC : W.heap[g]? = some (.cells C t)) (hr : r.length = sz) (h1 : ∀ u ∈ r, u.oneCell' = true)
    (hC' : W'.heap[g]? = some (.cells (ptL C (k * sz) r) t)) : OwnR W' base t sz (.slice (some ⟨g, 0, none⟩) n cap) (L.set k r) := by
  subst hn
  have hw : Wide sz (L.set k r) := fun x hx => by
    rcases List.mem_or_eq_of_mem_set hx with hx | hx
    · exact h.1 x hx
    · subst hx; exact ⟨hr, h1⟩
  refine ⟨hw, by rw [hw.length], ?_⟩
  rcases h.2.2 with ⟨h0, _⟩ | ⟨g', cap', cur, h0, hB, h2, h3, h4, h5, h6⟩
  · cases h0
  · injection h0 with e1 _ e3
    injection e1 with e1
    injection e1 with e1
    subst e1 e3
    rw [hC] at h2
    injection h2 with h2
    injection h2 with h2
    subst h2
    refine .inr ⟨g, cap, _, by rw [List.length_set], hB, hC', by rw [List.length_set]; exact h3, h4, by rw [ptL_size]; exact h5, ?_⟩
    rw [List.length_set]
    have hcs : L.length * sz ≤ C.size := by rw [h5]; exact Nat.mul_le_mul_right sz h3
    have hk2 : (k + 1) * sz ≤ L.length * sz := Nat.mul_le_mul_right sz hk
    rw [Nat.add_mul] at hk2
    have z0 : 0 < sz ∨ sz = 0 := by omega
    refine List.ext_getElem? fun i => ?_
    by_cases hi : i < L.length * sz
    · have z1 : 0 < sz := by rcases z0 with z | z; (· exact z); (· subst z; simp at hi)
      obtain ⟨d, m, hd, hm, rfl⟩ : ∃ d m, d < L.length ∧ m < sz ∧ i = d * sz + m := ⟨i / sz, i % sz, Nat.div_lt_of_lt_mul (by rw [Nat.mul_comm]; exact hi), Nat.mod_lt _ z1, by rw [Nat.mul_comm]; exact (Nat.div_add_mod i sz).symm⟩
      have hset := hw.at (i := d) (r := (L.set k r)[d]'(by rw [List.length_set]; exact hd)) (List.getElem?_eq_getElem _) m hm
      rw [hset, List.getElem?_take_of_lt hi, Array.getElem?_toList]
      by_cases hik : d = k
      · subst hik
        rw [ptL_in _ _ _ _ (by rw [hr]; omega) (by rw [hr]; exact hm), List.getElem_set_self]
      · rw [ptL_out _ _ _ _ (by
          rw [hr]
          rcases Nat.lt_or_gt_of_ne hik with h7 | h7
          · left
            have : (d + 1) * sz ≤ k * sz := Nat.mul_le_mul_right sz h7
            rw [Nat.add_mul] at this
            omega
          · right
            have : (k + 1) * sz ≤ d * sz := Nat.mul_le_mul_right sz h7
            rw [Nat.add_mul] at this
            omega)]
        have hold := h.1.at (i := d) (r := L[d]) (List.getElem?_eq_getElem hd) m hm
        rw [← h6, List.getElem?_take_of_lt hi, Array.getElem?_toList] at hold
        rw [hold, List.getElem_set_ne (Ne.symm hik)]
    · rw [List.getElem?_eq_none (by simp; omega), List.getElem?_eq_none (by rw [hw.length, List.length_set]; omega)]
end
end Go.Proofs.Yteoikaedpgianaa
