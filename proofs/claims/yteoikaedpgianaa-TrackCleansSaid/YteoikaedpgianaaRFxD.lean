/- The library's Compact at fixes (119). (Printed by wip/gen_fxd.py.) -/
import Derived.Test.YteoikaedpgianaaRFxB
import Derived.Deep.MidRow
namespace Go.Proofs.Yteoikaedpgianaa
open Go.RowKit Go.Sort Go.Lib Go.Shelf Go.Proofs

theorem fx_load {P : Program} {ops : Array Oper} {rest : List Oper} {op : Oper} {a : Act} {w : World} {Q : Exit → Act → World → Prop} (hgd : op.guard = none) (ty : TypeId) (x : Operand) (ho : op.op = .load ty x)
    (b o : Nat) (hx : a.eval x = .pointer (some ⟨b, o, none⟩)) (p : Fx) {d : TypeDesc} (hc : ∀ j, j < 10 → w.cell? ⟨b, o + j, none⟩ = p.row[j]?)
    (hu : P.underlying ty = some d) (hd : d.isRow = true) (hi : (P.info? ty).map (·.size) = some 10)
    (h : wpList P ops Q rest (a.put op.dst (.agg p.row.toArray)) w) : wpList P ops Q (op :: rest) a w :=
  wpList_load_mid hgd ty x ho b o hx p.row d (fun j v hv => by
    have hj : j < 10 := (List.getElem?_eq_some_iff.1 hv).1
    rw [hc j hj]; exact hv) hu hd (by rw [hi]; rfl) h
theorem size55f : (Try.prog.info? 55).map (·.size) = some 10 := by kernel_rfl
theorem ddU_all {S : List Fx} : ∀ {m : Nat}, m ≤ S.length → (∀ j, 0 < j → j < m → S[j]? ≠ S[j - 1]?) → ddU S m = S.take m
  | 0, _, _ => rfl
  | m + 1, hm, h => by
    have e := List.getElem?_eq_getElem (show m < S.length by omega)
    rw [ddU_keep e (by rcases Nat.eq_zero_or_pos m with h0 | h0; (· exact .inl h0); (· exact .inr (h m h0 (by omega)))), ddU_all (by omega) (fun j h1 h2 => h j h1 (by omega)), List.take_succ_eq_append_getElem (by omega)]
theorem ddU_small {S : List Fx} (h : S.length < 2) : ddU S S.length = S := by
  rcases S with _ | ⟨x, _ | ⟨y, l⟩⟩
  · rfl
  · simp [ddU]
  · simp at h; omega
/-- the second loop: m places have been looked at, c are kept -/
structure CompF (S : List Fx) (n c m : Nat) (T : List Fx) : Prop where
  len : T.length = n
  ken : (ddU S m).length = c
  lt : c < m
  low : T.take c = ddU S m
  high : ∀ j, m - 1 ≤ j → T[j]? = S[j]?
theorem CompF.start {S : List Fx} {k : Nat} (h : ddU S k = S.take k) (h2 : ddU S (k + 1) = ddU S k) (hk : k < S.length) : CompF S S.length k (k + 1) S :=
  ⟨rfl, by rw [h2, h, List.length_take]; omega, Nat.lt_succ_self _, by rw [h2, h], fun _ _ => rfl⟩
theorem CompF.skip {S : List Fx} {n c m : Nat} {T : List Fx} (h : CompF S n c m T) (hm : S[m]? = S[m - 1]?) : CompF S n c (m + 1) T :=
  ⟨h.len, by rw [ddU_skip (by have := h.lt; omega) hm]; exact h.ken, by have := h.lt; omega, by rw [ddU_skip (by have := h.lt; omega) hm]; exact h.low, fun j hj => h.high j (by omega)⟩
theorem CompF.keep {S : List Fx} {n c m : Nat} {T : List Fx} {x : Fx} (h : CompF S n c m T) (hx : S[m]? = some x) (hm : S[m]? ≠ S[m - 1]?) (hc : c < n) : CompF S n (c + 1) (m + 1) (T.set c x) := by
  have e := ddU_keep hx (Or.inr hm)
  refine ⟨by rw [List.length_set]; exact h.len, by rw [e, List.length_append, h.ken]; rfl, by have := h.lt; omega, ?_, fun j hj => ?_⟩
  · have hl : c < T.length := by rw [h.len]; exact hc
    rw [e, ← h.low, List.take_set, List.take_succ_eq_append_getElem hl, List.set_append_right _ _ (by rw [List.length_take]; omega), List.length_take, Nat.min_eq_left (by omega), Nat.sub_self]
    rfl
  · have := h.lt
    rw [List.getElem?_set_ne (by omega)]
    exact h.high j (by omega)
theorem OwnR.grow_below {W W' : World} {base t sz : Nat} {v : Value} {l : List (List Value)} (h : OwnR W base t sz v l) (hb : Below W.heap.size W W') : OwnR W' base t sz v l := h.grow hb
theorem rows_at {W : World} {base g n cap : Nat} {L : List Fx} (h : OwnF W base (.slice (some ⟨g, 0, none⟩) n cap) L) (hl : 0 < L.length) : RowsAt W g 0 10 (L.map Fx.row) := by
  obtain ⟨g9, cap9, C, hv9, _, _, hr, _⟩ := OwnR.rows h (by rw [List.length_map]; exact hl)
  injection hv9 with e1
  injection e1 with e1
  injection e1 with e1
  subst e1
  exact hr
theorem block_at {W : World} {base g n cap : Nat} {L : List Fx} (h : OwnF W base (.slice (some ⟨g, 0, none⟩) n cap) L) (hl : 0 < L.length) : ∃ C, W.heap[g]? = some (.cells C 55) ∧ C.size = cap * 10 := by
  obtain ⟨g9, cap9, C, hv9, _, hC, _, _, _, hs⟩ := OwnR.rows h (by rw [List.length_map]; exact hl)
  injection hv9 with e1 _ e3
  injection e1 with e1
  injection e1 with e1
  subst e1 e3
  exact ⟨C, hC, hs⟩
theorem row_of {W : World} {g : Nat} {L : List Fx} (h : RowsAt W g 0 10 (L.map Fx.row)) {i : Nat} {x : Fx} (hx : L[i]? = some x) (o : Nat) (ho : o = i * 10) : ∀ j, j < 10 → W.cell? ⟨g, o + j, none⟩ = x.row[j]? := fun j hj => by
  subst ho
  rw [← h i x.row (by rw [List.getElem?_map, hx]; rfl) j hj, Nat.zero_add]
theorem grownB {w W W' : World} {r : Option Nat} (h : w.grownBy W r) (hb : Below W.heap.size W W') : w.grownBy W' r := ⟨hb.os.trans h.os, hb.tape.trans h.tape, hb.output.trans h.output, Nat.le_trans h.size hb.size, fun k hk hn => (hb.block k (Nat.lt_of_lt_of_le hk h.size)).trans (h.block k hk hn)⟩
theorem grown_row {w W : World} {g : Nat} (h : w.grownBy W (some g)) (cs : Array Value) : w.grownBy (W.setRow g cs) (some g) := ⟨h.os, h.tape, h.output, Nat.le_trans h.size (by simp), fun k hk hn => by
  show (W.heap.modify g _)[k]? = _
  rw [Array.getElem?_modify, if_neg (fun e => hn (by rw [e]))]
  exact h.block k hk hn⟩
theorem run_clear_fx (w : World) (ty : TypeId) (b o n c : Nat) (hn : 0 < n) {C : Array Value} (hC : w.heap[b]? = some (.cells C 55)) (hs : o + n * 10 ≤ C.size) :
    (Builtin.clear_ #[106] ty #[.slice (some ⟨b, o, none⟩) n c]).run Try.prog w = .ok (.tuple #[]) (w.setRow b (ptL C o (List.replicate (n * 10) (.int .i64 0)))) := by
  have hzc : (Builtin.zeroCells #[.int .i64 0, .int .i64 0, .int .i64 0, .int .i64 0, .int .i64 0, .int .i64 0, .int .i64 0, .int .i64 0, .int .i64 0, .int .i64 0] n).toList = List.replicate (n * 10) (.int .i64 0) := by
    refine List.ext_getElem (by simp [Builtin.zeroCells]) (fun i h1 h2 => ?_)
    have hm : i % 10 < 10 := Nat.mod_lt _ (by decide)
    simp [Builtin.zeroCells]
    generalize i % 10 = q at *
    match q, hm with
    | 0, _ | 1, _ | 2, _ | 3, _ | 4, _ | 5, _ | 6, _ | 7, _ | 8, _ | 9, _ => rfl
  have hst := run_storeCells_cells (P := Try.prog) b o (List.replicate (n * 10) (.int .i64 0)) 0 w (fun j hj => by
    simp at hj
    rw [cell_row hC, Array.getElem?_eq_getElem (by omega)]; rfl) (fun j hj => by simp [World.frozen?, hC]) (by intro v hv'; rw [List.eq_of_mem_replicate hv']; rfl)
  simp only [Nat.add_zero] at hst
  obtain ⟨m, rfl⟩ : ∃ m, n = m + 1 := ⟨n - 1, by omega⟩
  rw [← pt_row _ hC]
  simp [Builtin.clear_, run_underlying Try.underlying106, Try.zeroValue55, Value.cells, hzc, hst]
set_option maxRecDepth 100000 in
set_option maxHeartbeats 3200000 in
theorem compactFx_any (v : Value) (S : List Fx) (base : Nat) (w : World) (h : OwnF w base v S) (hlen : S.length ≤ 1000000000) :
    Calls Try.prog 119 #[v] w fun r w' => ∃ v', r = .returned v' ∧ OwnF w' base v' (ddU S S.length) ∧ w.grownBy w' v.ownBlock ∧ v'.ownBlock = v.ownBlock := by
  by_cases h2 : S.length < 2
  · obtain ⟨a, cap, hv⟩ := OwnR.slice h
    rw [List.length_map] at hv
    subst hv
    have e := ddU_small h2
    have H := hid (show OwnF w base (.slice a S.length cap) (ddU S S.length) by rw [e]; exact h)
    clear h e
    generalize S.length = n at *
    have d1 : decide ((n : Int) < 2) = true := decide_eq_true (by omega)
    go_enter Try.func119, Try.ntmps119
    go_wp2_with fail
    go_ret
    exact ⟨_, rfl, H.out, ⟨rfl, rfl, rfl, Nat.le_refl _, fun _ _ _ => rfl⟩, rfl⟩
  obtain ⟨g, cap, cur, hv, hBg, hC0, hrows, hcap, hcm, hcs⟩ := OwnR.rows h (by rw [List.length_map]; omega)
  rw [List.length_map] at hv hcap
  subst hv
  obtain ⟨n, hn⟩ : ∃ n, n = S.length := ⟨_, rfl⟩
  rw [← hn] at hlen h2 h hcap ⊢
  have HN := hid hn
  have H := hid h
  have HRW := hid hrows
  have heq := fun x y W => eqFx x y W
  have hcm' : cap ≤ 9223372036854775807 := by unfold maxLen at hcm; omega
  have hgw := (Array.getElem?_eq_some_iff.1 hC0).1
  clear hn h hrows hC0 hcm hcs cur
  have d1 : decide ((n : Int) < 2) = false := decide_eq_false (by omega)
  go_enter Try.func119, Try.ntmps119
  go_wp2_with fail
  go_loopw [3] (fun iv W => ∃ k : Nat, 1 ≤ k ∧ k ≤ n ∧ iv = .int .i64 (k : Int) ∧ (∀ j, 0 < j → j < k → S[j]? ≠ S[j - 1]?) ∧ Below w.heap.size w W) (fun iv _ => n - (intOf iv).toNat)
  case atStart => exact ⟨1, by omega, by omega, rfl, fun j h1 h2 => by omega, Below.refl _ _⟩
  case round =>
    obtain ⟨k, hk, hkn, rfl, hall, hB⟩ := hrel
    have HB := hid hB
    have HALL := hid hall
    clear hB hall
    by_cases hlt : k < n
    · have e3 : decide ((k : Int) < (n : Int)) = true := decide_eq_true (by omega)
      obtain ⟨x, hx⟩ : ∃ x, S[k]? = some x := ⟨_, List.getElem?_eq_getElem (by rw [← HN.out]; exact hlt)⟩
      obtain ⟨y, hy⟩ : ∃ y, S[k - 1]? = some y := ⟨_, List.getElem?_eq_getElem (by rw [← HN.out]; omega)⟩
      have HX := hid hx
      have HY := hid hy
      clear hx hy
      have dk : decide ((0 : Int) < (k : Int)) = true := decide_eq_true (by omega)
      have hk0 : 0 < k := by omega
      have HRB := hid (fun W (hb : Below wr.heap.size wr W) => HRW.out.still (HB.out.trans (hb.mono HB.out.size)) hgw)
      go_wp2_with fail
      refine gen_act (fun A0 hA => ?_)
      refine wp_region_pl (by kernel_rfl) (by kernel_rfl) [some 16, some 17, some 18, some 19, some 20, some 21, some 22, some 23, some 24, some 25] rfl (by decide)
        [IsV (.slice (some ⟨g, 0, none⟩) n cap), IsV (.int .i64 (k : Int)), IsV (.pointer (some ⟨g, k * 10, none⟩)), IsV (.agg x.row.toArray), IsV (.slice (some ⟨g, 0, none⟩) n cap), IsV (.int .i64 (k : Int)), IsV (.int .i64 ((k : Int) - 1)), IsV (.pointer (some ⟨g, (k - 1) * 10, none⟩)), IsV (.agg y.row.toArray), IsV (.bool (decide (x = y)))]
        ⟨IsV.stb _, IsV.stb _, IsV.stb _, IsV.stb _, IsV.stb _, IsV.stb _, IsV.stb _, IsV.stb _, IsV.stb _, IsV.stb _, trivial⟩ ?hsA ?heA
      case hsA =>
        refine ⟨?_, ?_, ?_, ?_, ?_, ?_, ?_, ?_, ?_, ?_, trivial⟩
        · intro K us W hK0 hB hd
          have hK := hid hK0; clear hK0
          have HBW := hid hB
          clear hd
          simp only [putF]
          rw [hA]
          go_frame
          go_wp2_with fail
          exact hK.out _ _ _ (by rw [hA]; simp only [putF]; kernel_rfl) (Below.refl _ _) rfl
        · intro K us W hK0 hB hd
          have hK := hid hK0; clear hK0
          have HBW := hid hB
          clear hd
          simp only [putF]
          rw [hA]
          go_frame
          go_wp2_with fail
          exact hK.out _ _ _ (by rw [hA]; simp only [putF]; kernel_rfl) (Below.refl _ _) rfl
        · intro K us W hK0 hB hd
          have hK := hid hK0; clear hK0
          have HBW := hid hB
          have e0 : us 0 = .slice (some ⟨g, 0, none⟩) n cap := hd ⟨0, Ground.data⟩ (by simp) rfl
          have e1 : us 1 = .int .i64 (k : Int) := hd ⟨1, Ground.data⟩ (by simp) rfl
          clear hd
          simp only [putF]
          rw [hA, e0, e1]
          go_frame
          go_wp2_with fail
          exact hK.out _ _ _ (by rw [hA]; simp only [putF]; rw [e0, e1]; kernel_rfl) (Below.refl _ _) rfl
        · intro K us W hK0 hB hd
          have hK := hid hK0; clear hK0
          have HBW := hid hB
          have e2 : us 2 = .pointer (some ⟨g, k * 10, none⟩) := hd ⟨2, Ground.data⟩ (by simp) rfl
          clear hd
          have hc := row_of (HRB.out W hB) HX.out (k * 10) rfl
          simp only [putF]
          rw [hA, e2]
          go_frame
          go_wp2_with (refine fx_load rfl 55 (.tmp 18) rfl g (k * 10) rfl x hc Try.underlying55 rfl size55f ?_)
          exact hK.out _ _ _ (by rw [hA]; simp only [putF]; rw [e2]; kernel_rfl) (Below.refl _ _) rfl
        · intro K us W hK0 hB hd
          have hK := hid hK0; clear hK0
          have HBW := hid hB
          clear hd
          simp only [putF]
          rw [hA]
          go_frame
          go_wp2_with fail
          exact hK.out _ _ _ (by rw [hA]; simp only [putF]; kernel_rfl) (Below.refl _ _) rfl
        · intro K us W hK0 hB hd
          have hK := hid hK0; clear hK0
          have HBW := hid hB
          clear hd
          simp only [putF]
          rw [hA]
          go_frame
          go_wp2_with fail
          exact hK.out _ _ _ (by rw [hA]; simp only [putF]; kernel_rfl) (Below.refl _ _) rfl
        · intro K us W hK0 hB hd
          have hK := hid hK0; clear hK0
          have HBW := hid hB
          have e5 : us 5 = .int .i64 (k : Int) := hd ⟨5, Ground.data⟩ (by simp) rfl
          clear hd
          simp only [putF]
          rw [hA, e5]
          go_frame
          go_wp2_with fail
          exact hK.out _ _ _ (by rw [hA]; simp only [putF]; rw [e5]; kernel_rfl) (Below.refl _ _) rfl
        · intro K us W hK0 hB hd
          have hK := hid hK0; clear hK0
          have HBW := hid hB
          have e4 : us 4 = .slice (some ⟨g, 0, none⟩) n cap := hd ⟨4, Ground.data⟩ (by simp) rfl
          have e6 : us 6 = .int .i64 ((k : Int) - 1) := hd ⟨6, Ground.data⟩ (by simp) rfl
          clear hd
          simp only [putF]
          rw [hA, e4, e6]
          go_frame
          go_wp2_with fail
          exact hK.out _ _ _ (by rw [hA]; simp only [putF]; rw [e4, e6]; kernel_rfl) (Below.refl _ _) rfl
        · intro K us W hK0 hB hd
          have hK := hid hK0; clear hK0
          have HBW := hid hB
          have e7 : us 7 = .pointer (some ⟨g, (k - 1) * 10, none⟩) := hd ⟨7, Ground.data⟩ (by simp) rfl
          clear hd
          have hc := row_of (HRB.out W hB) HY.out ((k - 1) * 10) rfl
          simp only [putF]
          rw [hA, e7]
          go_frame
          go_wp2_with (refine fx_load rfl 55 (.tmp 23) rfl g ((k - 1) * 10) rfl y hc Try.underlying55 rfl size55f ?_)
          exact hK.out _ _ _ (by rw [hA]; simp only [putF]; rw [e7]; kernel_rfl) (Below.refl _ _) rfl
        · intro K us W hK0 hB hd
          have hK := hid hK0; clear hK0
          have HBW := hid hB
          have e3 : us 3 = .agg x.row.toArray := hd ⟨3, Ground.data⟩ (by simp) rfl
          have e8 : us 8 = .agg y.row.toArray := hd ⟨8, Ground.data⟩ (by simp) rfl
          clear hd
          simp only [putF]
          rw [hA, e3, e8]
          go_frame
          go_wp2_with fail
          exact hK.out _ _ _ (by rw [hA]; simp only [putF]; rw [e3, e8]; kernel_rfl) (Below.refl _ _) rfl
      case heA =>
        intro us W1 hBB hall
        have HSA := hid hBB
        have e0 : us 0 = .slice (some ⟨g, 0, none⟩) n cap := hall 0 (by decide)
        have e1 : us 1 = .int .i64 (k : Int) := hall 1 (by decide)
        have e2 : us 2 = .pointer (some ⟨g, k * 10, none⟩) := hall 2 (by decide)
        have e3 : us 3 = .agg x.row.toArray := hall 3 (by decide)
        have e4 : us 4 = .slice (some ⟨g, 0, none⟩) n cap := hall 4 (by decide)
        have e5 : us 5 = .int .i64 (k : Int) := hall 5 (by decide)
        have e6 : us 6 = .int .i64 ((k : Int) - 1) := hall 6 (by decide)
        have e7 : us 7 = .pointer (some ⟨g, (k - 1) * 10, none⟩) := hall 7 (by decide)
        have e8 : us 8 = .agg y.row.toArray := hall 8 (by decide)
        have e9 : us 9 = .bool (decide (x = y)) := hall 9 (by decide)
        clear hBB hall
        simp only [putF]
        rw [hA, e0, e1, e2, e3, e4, e5, e6, e7, e8, e9]
        go_frame
        clear hA e0 e1 e2 e3 e4 e5 e6 e7 e8 e9
        have HB1 := hid (HB.out.trans (HSA.out.mono HB.out.size))
        clear HB HRB HSA
        generalize hb1 : decide (x = y) = b1
        have HB1b := hid hb1
        clear hb1
        cases b1
        case true =>
          have HXY := hid (show x = y from of_decide_eq_true HB1b.out)
          have HI := hid (show CompF S n k (k + 1) S from HN.out ▸ CompF.start (ddU_all (by rw [← HN.out]; omega) HALL.out) (ddU_skip (by omega) (by rw [HX.out, HY.out, HXY.out])) (by rw [← HN.out]; omega))
          have HG1 := hid (show OwnF W1 base (.slice (some ⟨g, 0, none⟩) n cap) S ∧ w.grownBy W1 (some g) from ⟨OwnR.grow_below H.out HB1.out, grownB ⟨rfl, rfl, rfl, Nat.le_refl _, fun _ _ _ => rfl⟩ HB1.out⟩)
          clear dk HX HY HALL HRW HXY HB1b
          go_wp2_with fail
          obtain ⟨r, hr⟩ : ∃ r, r = n - k := ⟨_, rfl⟩
          obtain ⟨rc, hrc⟩ : ∃ rc, rc = cap - k := ⟨_, rfl⟩
          rw [← hr, ← hrc]
          have hrn : k + r = n := by omega
          clear hr hrc
          go_loopw [3, 5] (fun kv qv W => ∃ (c q : Nat) (T : List Fx), 1 ≤ q ∧ k + q ≤ n ∧ kv = .int .i64 (c : Int) ∧ qv = .int .i64 (q : Int) ∧ CompF S n c (k + q) T ∧ OwnF W base (.slice (some ⟨g, 0, none⟩) n cap) T ∧ w.grownBy W (some g)) (fun _ qv _ => n - (intOf qv).toNat)
          case atStart => exact ⟨k, 1, S, by omega, by omega, rfl, rfl, HI.out, HG1.out.1, HG1.out.2⟩
          case round =>
            obtain ⟨c, q, T, hq1, hqn, rfl, rfl, hI, hO, hG⟩ := hrel
            have HI := hid hI
            have HO := hid hO
            have HG := hid hG
            clear hI hO hG HG1 HB1
            by_cases hlt2 : q < r
            · have e4 : decide ((q : Int) < (r : Int)) = true := decide_eq_true (by omega)
              obtain ⟨x2, hx2⟩ : ∃ x, S[k + q]? = some x := ⟨_, List.getElem?_eq_getElem (by rw [← HN.out]; omega)⟩
              obtain ⟨y2, hy2⟩ : ∃ y, S[k + q - 1]? = some y := ⟨_, List.getElem?_eq_getElem (by rw [← HN.out]; omega)⟩
              have HXS := hid hx2
              have HYS := hid hy2
              have HX := hid (show T[k + q]? = some x2 by rw [HI.out.high _ (by omega)]; exact hx2)
              have HY := hid (show T[k + q - 1]? = some y2 by rw [HI.out.high _ (by omega)]; exact hy2)
              clear hx2 hy2
              have dq : decide ((0 : Int) < (q : Int)) = true := decide_eq_true (by omega)
              have hq0 : 0 < q := by omega
              have HRB := hid (fun W (hb : Below wr.heap.size wr W) => rows_at (OwnR.grow_below HO.out hb) (by rw [HI.out.len]; omega))
              have hgr : g < wr.heap.size := by have := HG.out.size; omega
              go_wp2_with fail
              refine gen_act (fun A0 hA => ?_)
              refine wp_region_pl (by kernel_rfl) (by kernel_rfl) [some 35, some 36, some 37, some 38, some 39, some 40, some 41, some 42, some 43, some 44] rfl (by decide)
                [IsV (.slice (some ⟨g, k * 10, none⟩) r rc), IsV (.int .i64 (q : Int)), IsV (.pointer (some ⟨g, k * 10 + q * 10, none⟩)), IsV (.agg x2.row.toArray), IsV (.slice (some ⟨g, k * 10, none⟩) r rc), IsV (.int .i64 (q : Int)), IsV (.int .i64 ((q : Int) - 1)), IsV (.pointer (some ⟨g, k * 10 + (q - 1) * 10, none⟩)), IsV (.agg y2.row.toArray), IsV (.bool (!decide (x2 = y2)))]
                ⟨IsV.stb _, IsV.stb _, IsV.stb _, IsV.stb _, IsV.stb _, IsV.stb _, IsV.stb _, IsV.stb _, IsV.stb _, IsV.stb _, trivial⟩ ?hsB ?heB
              case hsB =>
                refine ⟨?_, ?_, ?_, ?_, ?_, ?_, ?_, ?_, ?_, ?_, trivial⟩
                · intro K us W hK0 hB hd
                  have hK := hid hK0; clear hK0
                  have HBW := hid hB
                  clear hd
                  simp only [putF]
                  rw [hA]
                  go_frame
                  go_wp2_with fail
                  exact hK.out _ _ _ (by rw [hA]; simp only [putF]; kernel_rfl) (Below.refl _ _) rfl
                · intro K us W hK0 hB hd
                  have hK := hid hK0; clear hK0
                  have HBW := hid hB
                  clear hd
                  simp only [putF]
                  rw [hA]
                  go_frame
                  go_wp2_with fail
                  exact hK.out _ _ _ (by rw [hA]; simp only [putF]; kernel_rfl) (Below.refl _ _) rfl
                · intro K us W hK0 hB hd
                  have hK := hid hK0; clear hK0
                  have HBW := hid hB
                  have e0 : us 0 = .slice (some ⟨g, k * 10, none⟩) r rc := hd ⟨0, Ground.data⟩ (by simp) rfl
                  have e1 : us 1 = .int .i64 (q : Int) := hd ⟨1, Ground.data⟩ (by simp) rfl
                  clear hd
                  simp only [putF]
                  rw [hA, e0, e1]
                  go_frame
                  go_wp2_with fail
                  exact hK.out _ _ _ (by rw [hA]; simp only [putF]; rw [e0, e1]; kernel_rfl) (Below.refl _ _) rfl
                · intro K us W hK0 hB hd
                  have hK := hid hK0; clear hK0
                  have HBW := hid hB
                  have e2 : us 2 = .pointer (some ⟨g, k * 10 + q * 10, none⟩) := hd ⟨2, Ground.data⟩ (by simp) rfl
                  clear hd
                  have hc := row_of (HRB.out W hB) HX.out (k * 10 + q * 10) (by omega)
                  simp only [putF]
                  rw [hA, e2]
                  go_frame
                  go_wp2_with (refine fx_load rfl 55 (.tmp 37) rfl g (k * 10 + q * 10) rfl x2 hc Try.underlying55 rfl size55f ?_)
                  exact hK.out _ _ _ (by rw [hA]; simp only [putF]; rw [e2]; kernel_rfl) (Below.refl _ _) rfl
                · intro K us W hK0 hB hd
                  have hK := hid hK0; clear hK0
                  have HBW := hid hB
                  clear hd
                  simp only [putF]
                  rw [hA]
                  go_frame
                  go_wp2_with fail
                  exact hK.out _ _ _ (by rw [hA]; simp only [putF]; kernel_rfl) (Below.refl _ _) rfl
                · intro K us W hK0 hB hd
                  have hK := hid hK0; clear hK0
                  have HBW := hid hB
                  clear hd
                  simp only [putF]
                  rw [hA]
                  go_frame
                  go_wp2_with fail
                  exact hK.out _ _ _ (by rw [hA]; simp only [putF]; kernel_rfl) (Below.refl _ _) rfl
                · intro K us W hK0 hB hd
                  have hK := hid hK0; clear hK0
                  have HBW := hid hB
                  have e5 : us 5 = .int .i64 (q : Int) := hd ⟨5, Ground.data⟩ (by simp) rfl
                  clear hd
                  simp only [putF]
                  rw [hA, e5]
                  go_frame
                  go_wp2_with fail
                  exact hK.out _ _ _ (by rw [hA]; simp only [putF]; rw [e5]; kernel_rfl) (Below.refl _ _) rfl
                · intro K us W hK0 hB hd
                  have hK := hid hK0; clear hK0
                  have HBW := hid hB
                  have e4 : us 4 = .slice (some ⟨g, k * 10, none⟩) r rc := hd ⟨4, Ground.data⟩ (by simp) rfl
                  have e6 : us 6 = .int .i64 ((q : Int) - 1) := hd ⟨6, Ground.data⟩ (by simp) rfl
                  clear hd
                  simp only [putF]
                  rw [hA, e4, e6]
                  go_frame
                  go_wp2_with fail
                  exact hK.out _ _ _ (by rw [hA]; simp only [putF]; rw [e4, e6]; kernel_rfl) (Below.refl _ _) rfl
                · intro K us W hK0 hB hd
                  have hK := hid hK0; clear hK0
                  have HBW := hid hB
                  have e7 : us 7 = .pointer (some ⟨g, k * 10 + (q - 1) * 10, none⟩) := hd ⟨7, Ground.data⟩ (by simp) rfl
                  clear hd
                  have hc := row_of (HRB.out W hB) HY.out (k * 10 + (q - 1) * 10) (by omega)
                  simp only [putF]
                  rw [hA, e7]
                  go_frame
                  go_wp2_with (refine fx_load rfl 55 (.tmp 42) rfl g (k * 10 + (q - 1) * 10) rfl y2 hc Try.underlying55 rfl size55f ?_)
                  exact hK.out _ _ _ (by rw [hA]; simp only [putF]; rw [e7]; kernel_rfl) (Below.refl _ _) rfl
                · intro K us W hK0 hB hd
                  have hK := hid hK0; clear hK0
                  have HBW := hid hB
                  have e3 : us 3 = .agg x2.row.toArray := hd ⟨3, Ground.data⟩ (by simp) rfl
                  have e8 : us 8 = .agg y2.row.toArray := hd ⟨8, Ground.data⟩ (by simp) rfl
                  clear hd
                  simp only [putF]
                  rw [hA, e3, e8]
                  go_frame
                  go_wp2_with fail
                  exact hK.out _ _ _ (by rw [hA]; simp only [putF]; rw [e3, e8]; kernel_rfl) (Below.refl _ _) rfl
              case heB =>
                intro us W1 hBB hall
                have HSB := hid hBB
                have e0 : us 0 = .slice (some ⟨g, k * 10, none⟩) r rc := hall 0 (by decide)
                have e1 : us 1 = .int .i64 (q : Int) := hall 1 (by decide)
                have e2 : us 2 = .pointer (some ⟨g, k * 10 + q * 10, none⟩) := hall 2 (by decide)
                have e3 : us 3 = .agg x2.row.toArray := hall 3 (by decide)
                have e4 : us 4 = .slice (some ⟨g, k * 10, none⟩) r rc := hall 4 (by decide)
                have e5 : us 5 = .int .i64 (q : Int) := hall 5 (by decide)
                have e6 : us 6 = .int .i64 ((q : Int) - 1) := hall 6 (by decide)
                have e7 : us 7 = .pointer (some ⟨g, k * 10 + (q - 1) * 10, none⟩) := hall 7 (by decide)
                have e8 : us 8 = .agg y2.row.toArray := hall 8 (by decide)
                have e9 : us 9 = .bool (!decide (x2 = y2)) := hall 9 (by decide)
                clear hBB hall
                simp only [putF]
                rw [hA, e0, e1, e2, e3, e4, e5, e6, e7, e8, e9]
                go_frame
                clear hA e0 e1 e2 e3 e4 e5 e6 e7 e8 e9
                have HO1 := hid (OwnR.grow_below HO.out HSB.out)
                have HG1 := hid (grownB HG.out HSB.out)
                have HXT := hid (HRB.out W1 HSB.out)
                clear HO HG HRB HSB
                generalize hb2 : (!decide (x2 = y2)) = b2
                have HB2 := hid hb2
                clear hb2
                cases b2
                · have HXY2 := hid (show x2 = y2 by have := HB2.out; simpa using this)
                  go_wp2_with fail
                  exact ⟨⟨c, q + 1, T, by omega, by omega, rfl, by go_num, HI.out.skip (by rw [HXS.out, HYS.out, HXY2.out]), HO1.out, HG1.out⟩, by simp [intOf]; omega⟩
                · have HXY2 := hid (show x2 ≠ y2 by have := HB2.out; simpa using this)
                  have hc := row_of HXT.out HX.out (k * 10 + q * 10) (by omega)
                  obtain ⟨C, hC9, hcs9⟩ := block_at HO1.out (by rw [HI.out.len]; omega)
                  have HC9 := hid hC9
                  have hcn : c < n := by have := HI.out.lt; omega
                  have HCS := hid hcs9
                  clear hC9 hcs9
                  go_wp2_with (first | (refine fx_load rfl 55 (.tmp 49) rfl g (k * 10 + q * 10) rfl x2 hc Try.underlying55 rfl size55f ?_) | (refine pt_store rfl 55 (.tmp 51) (.tmp 50) rfl g (c * 10) _ rfl rfl HC9.out size55f rfl (by rw [HCS.out]; omega) rfl ?_))
                  exact ⟨⟨c + 1, q + 1, T.set c x2, by omega, by omega, by go_num, by go_num, HI.out.keep HXS.out (by rw [HXS.out, HYS.out]; exact fun e => HXY2.out (by injection e)) hcn, by unfold OwnF; rw [List.map_set]; exact OwnR.put HO1.out (by rw [List.length_map, HI.out.len]) hcn HC9.out rfl (Fx.row_one _) (setRow_heap _ _ _ _ _ _ HC9.out), grown_row HG1.out _⟩, by simp [intOf]; omega⟩
            · have e4 : decide ((q : Int) < (r : Int)) = false := decide_eq_false (by omega)
              obtain rfl : q = r := by omega
              obtain ⟨C, hC9, hcs9⟩ := block_at HO.out (by rw [HI.out.len]; omega)
              have hcn : c < n := by have := HI.out.lt; omega
              have hcl := run_clear_fx wr 0 g (c * 10) (n - c) (cap - c) (by omega) hC9 (by rw [hcs9]; omega)
              have HC9 := hid hC9
              clear hC9 hcs9
              go_wp2_with fail
              go_ret
              refine ⟨_, rfl, ?_, grown_row HG.out _, rfl⟩
              have e : ddU S n = T.take c := by rw [HI.out.low, hrn]
              rw [e]
              unfold OwnF
              rw [List.map_take]
              exact OwnR.cut HO.out (by omega) (by rw [List.length_map, HI.out.len]) HC9.out (setRow_heap _ _ _ _ _ _ HC9.out) (ptL_size _ _ _) (fun i hi => ptL_out _ _ _ _ (.inl hi))
        case false =>
          have HXY := hid (show x ≠ y from of_decide_eq_false HB1b.out)
          go_wp2_with fail
          exact ⟨⟨k + 1, by omega, by omega, by go_num, fun j h1 h2 => by rcases Nat.lt_or_ge j k with h3 | h3; (· exact HALL.out j h1 h3); (· obtain rfl : j = k := (by omega); rw [HX.out, HY.out]; exact fun e => HXY.out (by injection e)), HB1.out⟩, by simp [intOf]; omega⟩
    · obtain rfl : k = n := by omega
      have e3 : decide ((k : Int) < (k : Int)) = false := decide_eq_false (by omega)
      have HF := hid (show OwnF wr base (.slice (some ⟨g, 0, none⟩) k cap) (ddU S k) by rw [ddU_all (by rw [← HN.out]; exact Nat.le_refl _) HALL.out, List.take_of_length_le (by rw [← HN.out]; exact Nat.le_refl _)]; exact OwnR.grow_below H.out HB.out)
      go_wp2_with fail
      go_ret
      exact ⟨_, rfl, HF.out, grownB ⟨rfl, rfl, rfl, Nat.le_refl _, fun _ _ _ => rfl⟩ HB.out, rfl⟩
end Go.Proofs.Yteoikaedpgianaa
