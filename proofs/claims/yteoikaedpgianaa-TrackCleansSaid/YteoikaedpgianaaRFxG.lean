/- The program's cleaner of fixes: take 121. (Printed by wip/gen_fxg.py.) -/
import Derived.Test.YteoikaedpgianaaRFxE
namespace Go.Proofs.Yteoikaedpgianaa
open Go.RowKit Go.Sort Go.Lib Go.Shelf Go.Proofs

def Cl (W : World) (B g : Nat) (m0 m1 m2 m3 : Int) (s : List Fx × List Fx × List (Int × Int)) : Prop := ∃ kv rv iv, ClV W B g m0 m1 m2 m3 s.1 s.2.1 s.2.2 kv rv iv
theorem own_blocks_lt {W : World} {base t sz : Nat} {v : Value} {l : List (List Value)} (h : OwnR W base t sz v l) {k : Nat} (hk : v.ownBlock = some k) : k < W.heap.size := by
  obtain ⟨C, h1⟩ := own_type h hk
  exact (Array.getElem?_eq_some_iff.1 h1).1
theorem rows_one {W : World} {q : Nat} {f : Fx} (h : W.heap[q]? = some (.cells f.row.toArray 55)) : RowsAt W q 0 10 [f.row] := fun i r hi j hj => by
  match i, hi with
  | 0, hi =>
    injection hi with hi
    subst hi
    rw [cell_row h]
    simp
theorem own_cap {W : World} {B n c : Nat} {a : Option Addr} {L : List Fx} (h : OwnF W B (.slice a n c) L) (hn : L.length = n) : n ≤ c := by
  rcases h.2.2 with ⟨h1, h2⟩ | ⟨g, cap, cur, h1, _, _, h3, _⟩
  · injection h1 with _ h1 _; omega
  · injection h1 with _ _ h1
    rw [List.length_map] at h3
    omega
theorem rows_three {W : World} {b k : Nat} {L : List Fx} {x y z : Fx} (h : RowsAt W b 0 10 (L.map Fx.row)) (hx : L[k]? = some x) (hy : L[k + 1]? = some y) (hz : L[k + 2]? = some z) : RowsAt W b (k * 10) 10 [x.row, y.row, z.row] := fun i r hi j hj => by
  match i, hi with
  | 0, hi =>
    injection hi with hi; subst hi
    have := row_of h hx (k * 10) rfl j hj
    rwa [Nat.zero_mul, Nat.add_zero]
  | 1, hi =>
    injection hi with hi; subst hi
    have := row_of h hy ((k + 1) * 10) rfl j hj
    rwa [show k * 10 + 1 * 10 + j = (k + 1) * 10 + j by omega]
  | 2, hi =>
    injection hi with hi; subst hi
    have := row_of h hz ((k + 2) * 10) rfl j hj
    rwa [show k * 10 + 2 * 10 + j = (k + 2) * 10 + j by omega]
theorem rows_keep {W W' : World} {b o sz : Nat} {C : Array Value} {l : List (List Value)} (h : RowsAt W b o sz l) (hb : W.heap[b]? = some (.cells C 55)) (hk : Keep55 W W') : RowsAt W' b o sz l := fun i r hi j hj => by
  rw [← h i r hi j hj, cell_row (hk b C hb), cell_row hb]
set_option maxRecDepth 100000 in
set_option maxHeartbeats 3200000 in
/-- the first fix is kept -/
theorem take_first (B g : Nat) (m0 m1 m2 m3 : Int) (Kl Rl : List Fx) (I : List (Int × Int)) (kv rv iv : Value) (f : Fx) (w : World) (h : ClV w B g m0 m1 m2 m3 Kl Rl I kv rv iv) (hn : I.length + Rl.length ≤ 100000) (hk : Kl.length ≤ 100000) (h0 : Kl.length = 0) :
    Calls Try.prog 121 #[.pointer (some ⟨g, 0, none⟩), .agg f.row.toArray] w fun r w' => r = .returned (.tuple #[]) ∧ Cl w' B g m0 m1 m2 m3 (Kl ++ [f], [], I ++ offs Rl) ∧ Below B w w' := by
  have HLT := hid h.lt
  have HGB := hid h.hB
  have HKR := hid h.kr
  obtain ⟨ka, kc, hkv⟩ := OwnR.slice h.k
  rw [List.length_map] at hkv
  subst hkv
  obtain ⟨ra, rc, hrv⟩ := OwnR.slice h.r
  rw [List.length_map] at hrv
  subst hrv
  have H := hid h
  clear h
  obtain ⟨i0, hi, hz0, hz1, hz2⟩ := info_parts info55f
  have HI := hid hi
  have HZ0 := hid hz0
  have HZ1 := hid hz1
  have HZ2 := hid hz2
  clear hi hz0 hz1 hz2
  obtain ⟨n, hnn⟩ : ∃ n, n = Kl.length := ⟨_, rfl⟩
  obtain ⟨r, hrr⟩ : ∃ r, r = Rl.length := ⟨_, rfl⟩
  rw [← hnn] at H HKR hk
  rw [← hrr] at H HKR
  (try rw [← hrr] at hn)
  have HNA := hid hnn
  have HNR := hid hrr
  clear hnn hrr
  go_enter Try.func121, Try.ntmps121
  go_upto_region 1 with fail
  refine gen_world (fun W0 hW0 => ?_)
  have KB := hid (show W0.heap[w.heap.size]? = some (.cells f.row.toArray 55) by rw [hW0]; exact heap_alloc_at _ _ _ rfl)
  have HB0 := hid (show Below w.heap.size w W0 by rw [hW0]; exact (Below.refl _ _).alloc (Nat.le_refl _) _)
  clear hW0
  have HC := hid (H.out.still HB0.out)
  have HBB := hid (show Below B w W0 from HB0.out.mono (by have h1 := HLT.out; have h2 := HGB.out; omega))
  have hbx : w.heap.size < W0.heap.size := (Array.getElem?_eq_some_iff.1 KB.out).1
  have c4 : W0.cell? ⟨g, 4, none⟩ = some (.slice ka n kc) := HC.out.c4
  have h0 : n = 0 := HNA.out.trans h0
  have d0 : ((n : Int) == 0) = true := by simp; omega
  have H0 := hid h0
  clear h0
  go_wp2_with fail
  refine wp_region_quiet_below (by kernel_rfl) (by kernel_rfl) ?_
  repeat (first | go_big_quiet_step (fail) | quiet_step (fail))
  refine wpQuiet_nil ?_
  intro _ hw'
  obtain ⟨⟨dqV, osV⟩, hw2⟩ := hw'
  subst hw2
  have HQV := hid (below_regrown W0 dqV osV)
  generalize Sort.grow (redrawn W0 dqV) osV = V at HQV ⊢
  have hsV := HQV.out.size
  have HBV := hid (HBB.out.trans (HQV.out.mono (by have h1 := HLT.out; have h2 := HGB.out; have h3 := HB0.out.size; omega)))
  have HCV := hid (HC.out.still HQV.out)
  have KBV := hid (heap_still HQV.out KB.out)
  have hbv : w.heap.size < V.heap.size := (Array.getElem?_eq_some_iff.1 KBV.out).1
  have hbw := HB0.out.size
  have HBXL := hid (fun k (hk : (Value.slice ka n kc).ownBlock = some k) => show k < w.heap.size from own_blocks_lt H.out.k hk)
  have HBXR := hid (fun k (hk : (Value.slice ra r rc).ownBlock = some k) => show k < w.heap.size from own_blocks_lt H.out.r hk)
  have HBXG := hid (show g < w.heap.size from HLT.out)
  clear HQV KB HC
  go_wp2_with fail
  refine (drop_any B g m0 m1 m2 m3 Kl Rl I _ _ iv _ HCV.out (by rw [← HNR.out]; exact hn)).mono ?_
  rintro r9 w1 ⟨rfl, ⟨iv, hc1⟩, hb1, hx1⟩
  have KB := hid (hx1 _ _ KBV.out)
  have HC1 := hid hc1
  have HB1 := hid (HBV.out.trans hb1)
  have HKR := hid (show ∀ b, (Value.slice ka n kc).ownBlock = some b → (Value.slice none 0 0).ownBlock ≠ some b from fun _ _ => by simp [Value.ownBlock])
  have HBX := hid (show (Value.slice ka n kc).ownBlock ≠ some w.heap.size from fun e => by have := HBXL.out _ e; omega)
  clear hc1 hb1 hx1 HCV KBV HBXL HBXR
  go_wp2_with fail
  refine gen_act (fun A0 hA => ?_)
  refine wp_region_by (by kernel_rfl) (by kernel_rfl) [some 32, some 33, some 34, some 35, some 36, some 37, some 38, some 39, some 40, some 41, none] rfl (by decide) (StR (fun j => ([.pointer (some ⟨g, 0, none⟩), .pointer (some ⟨g, 0, none⟩), .pointer (some ⟨g, 0, none⟩), .pointer (some ⟨g, 4, none⟩), .slice ka n kc, .agg #[.int .i64 f.t, .int .i64 f.x, .int .i64 f.y, .int .i64 f.z, .int .i64 f.e, .int .i64 f.a, .int .i64 f.b, .int .i64 f.c, .int .i64 f.d, .int .i64 f.g], undef, undef, .pointer (some ⟨g, 0, none⟩), .pointer (some ⟨g, 4, none⟩), undef] : List Value).getD j undef) [6, 7, 10] [4] (fun kk vv WW => (match kk with | 0 => WW.heap[g]? = some (.cells #[.int .i64 m0, .int .i64 m1, .int .i64 m2, .int .i64 m3, .slice ka n kc, .slice none 0 0, iv] 173) ∧ OwnF WW B (.slice ka n kc) Kl | 1 => WW.heap[g]? = some (.cells #[.int .i64 m0, .int .i64 m1, .int .i64 m2, .int .i64 m3, .slice ka n kc, .slice none 0 0, iv] 173) ∧ OwnF WW B (.slice ka n kc) Kl ∧ (∃ q, vv 0 = .slice (some ⟨q, 0, none⟩) 1 1 ∧ WW.heap[q]? = some (.cells #[.int .i64 f.t, .int .i64 f.x, .int .i64 f.y, .int .i64 f.z, .int .i64 f.e, .int .i64 f.a, .int .i64 f.b, .int .i64 f.c, .int .i64 f.d, .int .i64 f.g] 55)) | 2 => WW.heap[g]? = some (.cells #[.int .i64 m0, .int .i64 m1, .int .i64 m2, .int .i64 m3, .slice ka n kc, .slice none 0 0, iv] 173) ∧ OwnF WW B (vv 1) (Kl ++ [f]) ∧ (∀ b, Value.ownBlock (vv 1) = some b → Value.ownBlock (.slice none 0 0) ≠ some b) | _ => WW.heap[g]? = some (.cells #[.int .i64 m0, .int .i64 m1, .int .i64 m2, .int .i64 m3, (vv 1), .slice none 0 0, iv] 173) ∧ OwnF WW B (vv 1) (Kl ++ [f]) ∧ (∀ b, Value.ownBlock (vv 1) = some b → Value.ownBlock (.slice none 0 0) ≠ some b)) ∧ Below B w WW ∧ w1.heap.size ≤ WW.heap.size ∧ WW.heap[w.heap.size]? = some (.cells f.row.toArray 55) ∧ OwnF WW B (.slice none 0 0) ([] : List Fx) ∧ OwnI2 WW B iv (I ++ offs Rl))) (selfF A0 _) (putF_self A0 _)
    (StR.start ⟨⟨(HC1.out.still (Below.refl _ _).drew).hg, (HC1.out.still (Below.refl _ _).drew).k⟩, HB1.out.drew, Nat.le_refl _, heap_still (Below.refl _ _).drew KB.out, (HC1.out.still (Below.refl _ _).drew).r, (HC1.out.still (Below.refl _ _).drew).i⟩ (fun _ => rfl)) ?hsA ?htA
  case hsA =>
    refine ⟨?_, ?_, ?_, ?_, ?_, ?_, ?_, ?_, ?_, ?_, ?_, trivial⟩
    · intro K L us W hK0 hL hd hR
      have hK := hid (fun v9 A9 h1 (h3 : v9 = .pointer (some ⟨g, 0, none⟩)) => hK0 v9 A9 W h1 (hR.pure (by decide) h3)); clear hK0
      clear hd
      simp only [putF]
      rw [hA]
      go_frame
      go_wp2_with fail
      exact hK.out _ _ (by rw [hA]; simp only [putF]; kernel_rfl) rfl
    · intro K L us W hK0 hL hd hR
      have hK := hid (fun v9 A9 h1 (h3 : v9 = .pointer (some ⟨g, 0, none⟩)) => hK0 v9 A9 W h1 (hR.pure (by decide) h3)); clear hK0
      clear hd
      simp only [putF]
      rw [hA]
      go_frame
      go_wp2_with fail
      exact hK.out _ _ (by rw [hA]; simp only [putF]; kernel_rfl) rfl
    · intro K L us W hK0 hL hd hR
      have e1 : us 1 = .pointer (some ⟨g, 0, none⟩) := hR.vals 1 (by decide) (all_on hd ⟨1, Ground.data⟩ (by simp) rfl)
      have hK := hid (fun v9 A9 h1 (h3 : v9 = .pointer (some ⟨g, 0, none⟩)) => hK0 v9 A9 W h1 (hR.pure (by decide) h3)); clear hK0
      clear hd
      simp only [putF]
      rw [hA, e1]
      go_frame
      go_wp2_with fail
      exact hK.out _ _ (by rw [hA]; simp only [putF]; rw [e1]; kernel_rfl) rfl
    · intro K L us W hK0 hL hd hR
      have e2 : us 2 = .pointer (some ⟨g, 0, none⟩) := hR.vals 2 (by decide) (all_on hd ⟨2, Ground.data⟩ (by simp) rfl)
      have hK := hid (fun v9 A9 h1 (h3 : v9 = .pointer (some ⟨g, 4, none⟩)) => hK0 v9 A9 W h1 (hR.pure (by decide) h3)); clear hK0
      clear hd
      simp only [putF]
      rw [hA, e2]
      go_frame
      go_wp2_with fail
      exact hK.out _ _ (by rw [hA]; simp only [putF]; rw [e2]; kernel_rfl) rfl
    · intro K L us W hK0 hL hd hR
      have e3 : us 3 = .pointer (some ⟨g, 4, none⟩) := hR.vals 3 (by decide) (all_on hd ⟨3, Ground.data⟩ (by simp) rfl)
      have hK := hid (fun v9 A9 h1 (h3 : v9 = .slice ka n kc) => hK0 v9 A9 W h1 (hR.pure (by decide) h3)); clear hK0
      have c0 : W.cell? ⟨g, 4, none⟩ = some (.slice ka n kc) := by obtain ⟨k9, hk9, hS9⟩ := hR.early (j := 4) (by decide) hL (by decide); match k9, hk9, hS9 with | 0, _, hS9 => exact (cell_row (j := 4) hS9.1.1).trans rfl | 1, _, hS9 => exact (cell_row (j := 4) hS9.1.1).trans rfl | 2, _, hS9 => exact (cell_row (j := 4) hS9.1.1).trans rfl
      clear hd
      simp only [putF]
      rw [hA, e3]
      go_frame
      go_wp2_with fail
      exact hK.out _ _ (by rw [hA]; simp only [putF]; rw [e3]; kernel_rfl) rfl
    · intro K L us W hK0 hL hd hR
      have hK := hid (fun v9 A9 h1 (h3 : v9 = .agg #[.int .i64 f.t, .int .i64 f.x, .int .i64 f.y, .int .i64 f.z, .int .i64 f.e, .int .i64 f.a, .int .i64 f.b, .int .i64 f.c, .int .i64 f.d, .int .i64 f.g]) => hK0 v9 A9 W h1 (hR.pure (by decide) h3)); clear hK0
      have hx9 : W.heap[w.heap.size]? = some (.cells f.row.toArray 55) := by obtain ⟨_, _, _, hSq⟩ := hR.st; exact hSq.2.2.2.1
      clear hd
      simp only [putF]
      rw [hA]
      go_frame
      go_wp2_with (refine wpList_load_at rfl 55 (.tmp 3) rfl rfl hx9 Try.underlying55 rfl size55f (row_arr f) ?_)
      exact hK.out _ _ (by rw [hA]; simp only [putF]; kernel_rfl) rfl
    · intro K L us W hK0 hL hd hR
      have e5 : us 5 = .agg #[.int .i64 f.t, .int .i64 f.x, .int .i64 f.y, .int .i64 f.z, .int .i64 f.e, .int .i64 f.a, .int .i64 f.b, .int .i64 f.c, .int .i64 f.d, .int .i64 f.g] := hR.vals 5 (by decide) (all_on hd ⟨5, Ground.data⟩ (by simp) rfl)
      have hS := hR.at 0 (by decide) (.inl rfl) hL
      have hK := hid (fun v9 A9 W9 h1 (hS' : (fun kk vv WW => (match kk with | 0 => WW.heap[g]? = some (.cells #[.int .i64 m0, .int .i64 m1, .int .i64 m2, .int .i64 m3, .slice ka n kc, .slice none 0 0, iv] 173) ∧ OwnF WW B (.slice ka n kc) Kl | 1 => WW.heap[g]? = some (.cells #[.int .i64 m0, .int .i64 m1, .int .i64 m2, .int .i64 m3, .slice ka n kc, .slice none 0 0, iv] 173) ∧ OwnF WW B (.slice ka n kc) Kl ∧ (∃ q, vv 0 = .slice (some ⟨q, 0, none⟩) 1 1 ∧ WW.heap[q]? = some (.cells #[.int .i64 f.t, .int .i64 f.x, .int .i64 f.y, .int .i64 f.z, .int .i64 f.e, .int .i64 f.a, .int .i64 f.b, .int .i64 f.c, .int .i64 f.d, .int .i64 f.g] 55)) | 2 => WW.heap[g]? = some (.cells #[.int .i64 m0, .int .i64 m1, .int .i64 m2, .int .i64 m3, .slice ka n kc, .slice none 0 0, iv] 173) ∧ OwnF WW B (vv 1) (Kl ++ [f]) ∧ (∀ b, Value.ownBlock (vv 1) = some b → Value.ownBlock (.slice none 0 0) ≠ some b) | _ => WW.heap[g]? = some (.cells #[.int .i64 m0, .int .i64 m1, .int .i64 m2, .int .i64 m3, (vv 1), .slice none 0 0, iv] 173) ∧ OwnF WW B (vv 1) (Kl ++ [f]) ∧ (∀ b, Value.ownBlock (vv 1) = some b → Value.ownBlock (.slice none 0 0) ≠ some b)) ∧ Below B w WW ∧ w1.heap.size ≤ WW.heap.size ∧ WW.heap[w.heap.size]? = some (.cells f.row.toArray 55) ∧ OwnF WW B (.slice none 0 0) ([] : List Fx) ∧ OwnI2 WW B iv (I ++ offs Rl)) 1 (fun j => if j = 0 then v9 else selV [6, 7, 10] us j) W9) => hK0 v9 A9 W9 h1 (hR.next (by decide) 0 (by decide) (.inl rfl) hL hS' (fun h => absurd h (by decide)))); clear hK0
      obtain ⟨⟨hg4, ho4⟩, ⟨hB4, hz4, hx4, hr4, hi4⟩⟩ := hS
      have G4 := hid hg4
      have O4 := hid ho4
      clear hg4 ho4
      have B4 := hid hB4
      have X4 := hid hx4
      have R4 := hid hr4
      have I4 := hid hi4
      clear hB4 hx4 hr4 hi4
      clear hd
      simp only [putF]
      rw [hA, e5]
      go_frame
      go_wp2_with fail
      refine hK.out (.slice (some ⟨W.heap.size, 0, none⟩) 1 1) _ _ (by rw [hA]; simp only [putF]; rw [e5]; kernel_rfl) ?_
      exact ⟨⟨heap_still ((Below.refl W.heap.size W).alloc (Nat.le_refl _) (.cells #[.int .i64 f.t, .int .i64 f.x, .int .i64 f.y, .int .i64 f.z, .int .i64 f.e, .int .i64 f.a, .int .i64 f.b, .int .i64 f.c, .int .i64 f.d, .int .i64 f.g] 55)) G4.out, O4.out.grow ((Below.refl W.heap.size W).alloc (Nat.le_refl _) (.cells #[.int .i64 f.t, .int .i64 f.x, .int .i64 f.y, .int .i64 f.z, .int .i64 f.e, .int .i64 f.a, .int .i64 f.b, .int .i64 f.c, .int .i64 f.d, .int .i64 f.g] 55)), ⟨W.heap.size, rfl, heap_alloc_at _ _ _ rfl⟩⟩, B4.out.trans (((Below.refl W.heap.size W).alloc (Nat.le_refl _) (.cells #[.int .i64 f.t, .int .i64 f.x, .int .i64 f.y, .int .i64 f.z, .int .i64 f.e, .int .i64 f.a, .int .i64 f.b, .int .i64 f.c, .int .i64 f.d, .int .i64 f.g] 55)).mono (by have h1 := B4.out.size; have h2 := HLT.out; have h3 := HGB.out; omega)), by simp; omega, heap_still ((Below.refl W.heap.size W).alloc (Nat.le_refl _) (.cells #[.int .i64 f.t, .int .i64 f.x, .int .i64 f.y, .int .i64 f.z, .int .i64 f.e, .int .i64 f.a, .int .i64 f.b, .int .i64 f.c, .int .i64 f.d, .int .i64 f.g] 55)) X4.out, R4.out.grow ((Below.refl W.heap.size W).alloc (Nat.le_refl _) (.cells #[.int .i64 f.t, .int .i64 f.x, .int .i64 f.y, .int .i64 f.z, .int .i64 f.e, .int .i64 f.a, .int .i64 f.b, .int .i64 f.c, .int .i64 f.d, .int .i64 f.g] 55)), I4.out.grow ((Below.refl W.heap.size W).alloc (Nat.le_refl _) (.cells #[.int .i64 f.t, .int .i64 f.x, .int .i64 f.y, .int .i64 f.z, .int .i64 f.e, .int .i64 f.a, .int .i64 f.b, .int .i64 f.c, .int .i64 f.d, .int .i64 f.g] 55))⟩
    · intro K L us W hK0 hL hd hR
      have e4 : us 4 = .slice ka n kc := hR.vals 4 (by decide) (all_on hd ⟨4, Ground.data⟩ (by simp) rfl)
      have hS := hR.at 1 (by decide) (.inr ⟨by decide, all_on hd ⟨6, Ground.data⟩ (by simp) rfl⟩) hL
      have hK := hid (fun v9 A9 W9 h1 (hS' : (fun kk vv WW => (match kk with | 0 => WW.heap[g]? = some (.cells #[.int .i64 m0, .int .i64 m1, .int .i64 m2, .int .i64 m3, .slice ka n kc, .slice none 0 0, iv] 173) ∧ OwnF WW B (.slice ka n kc) Kl | 1 => WW.heap[g]? = some (.cells #[.int .i64 m0, .int .i64 m1, .int .i64 m2, .int .i64 m3, .slice ka n kc, .slice none 0 0, iv] 173) ∧ OwnF WW B (.slice ka n kc) Kl ∧ (∃ q, vv 0 = .slice (some ⟨q, 0, none⟩) 1 1 ∧ WW.heap[q]? = some (.cells #[.int .i64 f.t, .int .i64 f.x, .int .i64 f.y, .int .i64 f.z, .int .i64 f.e, .int .i64 f.a, .int .i64 f.b, .int .i64 f.c, .int .i64 f.d, .int .i64 f.g] 55)) | 2 => WW.heap[g]? = some (.cells #[.int .i64 m0, .int .i64 m1, .int .i64 m2, .int .i64 m3, .slice ka n kc, .slice none 0 0, iv] 173) ∧ OwnF WW B (vv 1) (Kl ++ [f]) ∧ (∀ b, Value.ownBlock (vv 1) = some b → Value.ownBlock (.slice none 0 0) ≠ some b) | _ => WW.heap[g]? = some (.cells #[.int .i64 m0, .int .i64 m1, .int .i64 m2, .int .i64 m3, (vv 1), .slice none 0 0, iv] 173) ∧ OwnF WW B (vv 1) (Kl ++ [f]) ∧ (∀ b, Value.ownBlock (vv 1) = some b → Value.ownBlock (.slice none 0 0) ≠ some b)) ∧ Below B w WW ∧ w1.heap.size ≤ WW.heap.size ∧ WW.heap[w.heap.size]? = some (.cells f.row.toArray 55) ∧ OwnF WW B (.slice none 0 0) ([] : List Fx) ∧ OwnI2 WW B iv (I ++ offs Rl)) 2 (fun j => if j = 1 then v9 else selV [6, 7, 10] us j) W9) => hK0 v9 A9 W9 h1 (hR.next (by decide) 1 (by decide) (.inr ⟨by decide, all_on hd ⟨6, Ground.data⟩ (by simp) rfl⟩) hL hS' (fun h => absurd h (by decide)))); clear hK0
      obtain ⟨⟨hg4, ho4, ⟨q, hq, hq4⟩⟩, ⟨hB4, hz4, hx4, hr4, hi4⟩⟩ := hS
      have e6 : us 6 = .slice (some ⟨q, 0, none⟩) 1 1 := hq
      have G4 := hid hg4
      have O4 := hid ho4
      have Q4 := hid hq4
      clear hg4 ho4 hq hq4
      have B4 := hid hB4
      have X4 := hid hx4
      have R4 := hid hr4
      have I4 := hid hi4
      clear hB4 hx4 hr4 hi4
      have HL1 := hid (show (Kl.map Fx.row).length + [f.row].length ≤ maxLen by rw [List.length_map, ← HNA.out, List.length_singleton]; unfold maxLen; omega)
      have HL2 := hid (show ((Kl.map Fx.row).length + [f.row].length) * 80 ≤ 140737488355328 by rw [List.length_map, ← HNA.out, List.length_singleton]; omega)
      have HL3 := hid (show B ≤ W.heap.size by have h1 := B4.out.size; have h2 := HLT.out; have h3 := HGB.out; omega)
      clear hd
      simp only [putF]
      rw [hA, e4, e6]
      go_frame
      go_wp2_with (first | (at_builtin; go_loud (refine wpList_append_rowsR rfl (.tmp 36) (.tmp 38) 106 rfl B 55 i0 _ 10 80 Try.underlying106 HI.out HZ0.out HZ1.out HZ2.out rfl (by decide) _ (Kl.map Fx.row) [f.row] rfl O4.out q 0 1 1 rfl rfl (rows_one (f := f) Q4.out) (rows_wide [f]) HL1.out HL2.out HL3.out ?_; intro v7 w7 ho1 ho2 ho3; have HO1 := hid ho1; have HO2 := hid ho2; have HO3 := hid ho3; clear ho1 ho2 ho3)))
      refine hK.out v7 _ _ (by rw [hA]; simp only [putF]; rw [e4, e6]; kernel_rfl) ?_
      have hb : ∀ k, (Value.ownBlock (.slice ka n kc)) ≠ some k → k < W.heap.size → w7.heap[k]? = W.heap[k]? := fun k hk hlt => HO2.out.block k hlt (fun e => hk e.symm)
      have hgl : ∀ {k : Nat} {x : Obj}, W.heap[k]? = some x → k < W.heap.size := fun h => (Array.getElem?_eq_some_iff.1 h).1
      refine ⟨⟨(hb g (own_not O4.out G4.out (by decide)) (hgl G4.out)).trans G4.out, by have h1 := HO1.out; unfold OwnF; rw [List.map_append]; exact h1, fun b hb hb2 => by have hb3 : Value.ownBlock v7 = some b := hb; rcases HO3.out with e | e; (· exact HKR.out b (e ▸ hb3) hb2); (· rw [e] at hb3; injection hb3 with hb3; subst hb3; have := own_blocks_lt R4.out hb2; omega)⟩, below_grown B4.out HO2.out (fun k hk => OwnR.ownBlock O4.out k hk) HL3.out, by have h1 := HO2.out.size; omega, (hb _ HBX.out (hgl X4.out)).trans X4.out, R4.out.same (fun k e => hb k (fun e2 => HKR.out k e2 e) (own_blocks_lt R4.out e)), I4.out.same (fun k e => hb k (fun e2 => own_apart O4.out I4.out (by decide) k e2 e) (own_blocks_lt I4.out e))⟩
    · intro K L us W hK0 hL hd hR
      have e0 : us 0 = .pointer (some ⟨g, 0, none⟩) := hR.vals 0 (by decide) (all_on hd ⟨0, Ground.data⟩ (by simp) rfl)
      have hK := hid (fun v9 A9 h1 (h3 : v9 = .pointer (some ⟨g, 0, none⟩)) => hK0 v9 A9 W h1 (hR.pure (by decide) h3)); clear hK0
      clear hd
      simp only [putF]
      rw [hA, e0]
      go_frame
      go_wp2_with fail
      exact hK.out _ _ (by rw [hA]; simp only [putF]; rw [e0]; kernel_rfl) rfl
    · intro K L us W hK0 hL hd hR
      have e8 : us 8 = .pointer (some ⟨g, 0, none⟩) := hR.vals 8 (by decide) (all_on hd ⟨8, Ground.data⟩ (by simp) rfl)
      have hK := hid (fun v9 A9 h1 (h3 : v9 = .pointer (some ⟨g, 4, none⟩)) => hK0 v9 A9 W h1 (hR.pure (by decide) h3)); clear hK0
      clear hd
      simp only [putF]
      rw [hA, e8]
      go_frame
      go_wp2_with fail
      exact hK.out _ _ (by rw [hA]; simp only [putF]; rw [e8]; kernel_rfl) rfl
    · intro K L us W hK0 hL hd hR
      have e9 : us 9 = .pointer (some ⟨g, 4, none⟩) := hR.vals 9 (by decide) (all_on hd ⟨9, Ground.data⟩ (by simp) rfl)
      have hS := hR.at 2 (by decide) (.inr ⟨by decide, all_on hd ⟨7, Ground.data⟩ (by simp) rfl⟩) hL
      have hK := hid (fun v9 A9 W9 h1 (hS' : (fun kk vv WW => (match kk with | 0 => WW.heap[g]? = some (.cells #[.int .i64 m0, .int .i64 m1, .int .i64 m2, .int .i64 m3, .slice ka n kc, .slice none 0 0, iv] 173) ∧ OwnF WW B (.slice ka n kc) Kl | 1 => WW.heap[g]? = some (.cells #[.int .i64 m0, .int .i64 m1, .int .i64 m2, .int .i64 m3, .slice ka n kc, .slice none 0 0, iv] 173) ∧ OwnF WW B (.slice ka n kc) Kl ∧ (∃ q, vv 0 = .slice (some ⟨q, 0, none⟩) 1 1 ∧ WW.heap[q]? = some (.cells #[.int .i64 f.t, .int .i64 f.x, .int .i64 f.y, .int .i64 f.z, .int .i64 f.e, .int .i64 f.a, .int .i64 f.b, .int .i64 f.c, .int .i64 f.d, .int .i64 f.g] 55)) | 2 => WW.heap[g]? = some (.cells #[.int .i64 m0, .int .i64 m1, .int .i64 m2, .int .i64 m3, .slice ka n kc, .slice none 0 0, iv] 173) ∧ OwnF WW B (vv 1) (Kl ++ [f]) ∧ (∀ b, Value.ownBlock (vv 1) = some b → Value.ownBlock (.slice none 0 0) ≠ some b) | _ => WW.heap[g]? = some (.cells #[.int .i64 m0, .int .i64 m1, .int .i64 m2, .int .i64 m3, (vv 1), .slice none 0 0, iv] 173) ∧ OwnF WW B (vv 1) (Kl ++ [f]) ∧ (∀ b, Value.ownBlock (vv 1) = some b → Value.ownBlock (.slice none 0 0) ≠ some b)) ∧ Below B w WW ∧ w1.heap.size ≤ WW.heap.size ∧ WW.heap[w.heap.size]? = some (.cells f.row.toArray 55) ∧ OwnF WW B (.slice none 0 0) ([] : List Fx) ∧ OwnI2 WW B iv (I ++ offs Rl)) 3 (fun j => if j = 2 then v9 else selV [6, 7, 10] us j) W9) => hK0 v9 A9 W9 h1 (hR.next (by decide) 2 (by decide) (.inr ⟨by decide, all_on hd ⟨7, Ground.data⟩ (by simp) rfl⟩) hL hS' (fun _ => by intro j hj; rw [List.mem_singleton.1 hj]; exact all_on hd ⟨4, Ground.phase⟩ (by simp) rfl))); clear hK0
      obtain ⟨⟨hg4, ho4, hap4⟩, ⟨hB4, hz4, hx4, hr4, hi4⟩⟩ := hS
      obtain ⟨v7, e7⟩ : ∃ v, us 7 = v := ⟨_, rfl⟩
      have ho5 : OwnF W B (us 7) (Kl ++ [f]) := ho4
      have hap5 : (∀ b, Value.ownBlock (us 7) = some b → Value.ownBlock (.slice none 0 0) ≠ some b) := hap4
      rw [e7] at ho5 hap5
      obtain ⟨a9, c9, e99⟩ := OwnR.slice ho5
      subst e99
      have G4 := hid hg4
      have O5 := hid ho5
      have AP5 := hid hap5
      clear ho4 ho5 hg4 hap4 hap5
      have B4 := hid hB4
      have X4 := hid hx4
      have R4 := hid hr4
      have I4 := hid hi4
      clear hB4 hx4 hr4 hi4
      have z1 : W.frozen? ⟨g, 4, none⟩ = false := by have hh := G4.out; simp [World.frozen?, hh]
      have z0 : W.cell? ⟨g, 4, none⟩ = some (.slice ka n kc) := (cell_row (j := 4) G4.out).trans rfl
      generalize hl9 : ((Kl ++ [f]).map Fx.row).length = n9 at *
      have HL9 := hid hl9
      clear hl9
      clear hd
      simp only [putF]
      rw [hA, e9, e7]
      go_frame
      go_wp2_with fail
      refine hK.out undef _ _ (by rw [hA]; simp only [putF]; rw [e9, e7]; kernel_rfl) ?_
      have C9 := ClV.putK G4.out HGB.out R4.out I4.out O5.out AP5.out
      refine ⟨⟨?_, ?_, ?_⟩, below_set B4.out HGB.out _, by simp; omega, (setCell_other (fun e => by have h1 := HBXG.out; omega)).trans X4.out, C9.r, C9.i⟩
      · show _ = some (Obj.cells #[.int .i64 m0, .int .i64 m1, .int .i64 m2, .int .i64 m3, (us 7), .slice none 0 0, iv] 173)
        rw [e7]
        exact C9.hg
      · show OwnF _ B (us 7) (Kl ++ [f])
        rw [e7]
        exact C9.k
      · show (∀ b, Value.ownBlock (us 7) = some b → Value.ownBlock (.slice none 0 0) ≠ some b)
        rw [e7]
        exact AP5.out
  case htA =>
    intro L us W5 hall hR
    have hS := hR.last (fun i hi => match i, hi with | 0, _ => hall 6 (by decide) | 1, _ => hall 7 (by decide) | 2, _ => hall 10 (by decide))
    have e0 : us 0 = .pointer (some ⟨g, 0, none⟩) := hR.vals 0 (by decide) (hall 0 (by decide))
    have e1 : us 1 = .pointer (some ⟨g, 0, none⟩) := hR.vals 1 (by decide) (hall 1 (by decide))
    have e2 : us 2 = .pointer (some ⟨g, 0, none⟩) := hR.vals 2 (by decide) (hall 2 (by decide))
    have e3 : us 3 = .pointer (some ⟨g, 4, none⟩) := hR.vals 3 (by decide) (hall 3 (by decide))
    have e4 : us 4 = .slice ka n kc := hR.vals 4 (by decide) (hall 4 (by decide))
    have e5 : us 5 = .agg #[.int .i64 f.t, .int .i64 f.x, .int .i64 f.y, .int .i64 f.z, .int .i64 f.e, .int .i64 f.a, .int .i64 f.b, .int .i64 f.c, .int .i64 f.d, .int .i64 f.g] := hR.vals 5 (by decide) (hall 5 (by decide))
    have e8 : us 8 = .pointer (some ⟨g, 0, none⟩) := hR.vals 8 (by decide) (hall 8 (by decide))
    have e9 : us 9 = .pointer (some ⟨g, 4, none⟩) := hR.vals 9 (by decide) (hall 9 (by decide))
    clear hR hall
    obtain ⟨⟨hg5, ho5, hap5⟩, hB5, _, hx5, hr5, hi5⟩ := hS
    obtain ⟨v6, e6⟩ : ∃ v, us 6 = v := ⟨_, rfl⟩
    obtain ⟨v7, e7⟩ : ∃ v, us 7 = v := ⟨_, rfl⟩
    have hg6 : W5.heap[g]? = some (.cells #[.int .i64 m0, .int .i64 m1, .int .i64 m2, .int .i64 m3, (us 7), .slice none 0 0, iv] 173) := hg5
    have ho6 : OwnF W5 B (us 7) (Kl ++ [f]) := ho5
    have hap6 : (∀ b, Value.ownBlock (us 7) = some b → Value.ownBlock (.slice none 0 0) ≠ some b) := hap5
    rw [e7] at hg6 ho6 hap6
    have C5 := hid (show ClV W5 B g m0 m1 m2 m3 (Kl ++ [f]) ([] : List Fx) (I ++ offs Rl) v7 (.slice none 0 0) iv from ⟨hg6, HGB.out, ho6, hr5, hi5, hap6⟩)
    have B5 := hid hB5
    have X5 := hid hx5
    clear hg5 ho5 hB5 hr5 hi5 hg6 ho6 hap5 hap6 hx5
    simp only [putF]
    rw [hA, e0, e1, e2, e3, e4, e5, e8, e9, e6, e7]
    go_frame
    clear hA e6 e7 e0 e1 e2 e3 e4 e5 e8 e9
    go_wp2_with fail
    (first | (refine bodyPost_ret (results_none rfl _ _ _) rfl ?_) | go_end0)
    exact ⟨rfl, ⟨_, _, _, C5.out⟩, B5.out⟩
set_option maxRecDepth 100000 in
set_option maxHeartbeats 3200000 in
/-- a fix that is near the last one is kept -/
theorem take_keep (B g : Nat) (m0 m1 m2 m3 : Int) (Kl Rl : List Fx) (I : List (Int × Int)) (kv rv iv : Value) (f : Fx) (w : World) (h : ClV w B g m0 m1 m2 m3 Kl Rl I kv rv iv) (hn : I.length + Rl.length ≤ 100000) (hk : Kl.length ≤ 100000) (hf : f.ok = true) (hm : 0 ≤ m1 ∧ m1 ≤ 1000000) (hok : ∀ p ∈ Kl, p.ok = true) (h0 : 0 < Kl.length) (hkeep : keepG (nearB m1) Kl f = true) :
    Calls Try.prog 121 #[.pointer (some ⟨g, 0, none⟩), .agg f.row.toArray] w fun r w' => r = .returned (.tuple #[]) ∧ Cl w' B g m0 m1 m2 m3 (Kl ++ [f], [], I ++ offs Rl) ∧ Below B w w' := by
  have HLT := hid h.lt
  have HGB := hid h.hB
  have HKR := hid h.kr
  obtain ⟨ka, kc, hkv⟩ := OwnR.slice h.k
  rw [List.length_map] at hkv
  subst hkv
  obtain ⟨ra, rc, hrv⟩ := OwnR.slice h.r
  rw [List.length_map] at hrv
  subst hrv
  have H := hid h
  clear h
  obtain ⟨i0, hi, hz0, hz1, hz2⟩ := info_parts info55f
  have HI := hid hi
  have HZ0 := hid hz0
  have HZ1 := hid hz1
  have HZ2 := hid hz2
  clear hi hz0 hz1 hz2
  obtain ⟨n, hnn⟩ : ∃ n, n = Kl.length := ⟨_, rfl⟩
  obtain ⟨r, hrr⟩ : ∃ r, r = Rl.length := ⟨_, rfl⟩
  rw [← hnn] at H HKR hk
  rw [← hrr] at H HKR
  (try rw [← hrr] at hn)
  have HNA := hid hnn
  have HNR := hid hrr
  clear hnn hrr
  go_enter Try.func121, Try.ntmps121
  go_upto_region 1 with fail
  refine gen_world (fun W0 hW0 => ?_)
  have KB := hid (show W0.heap[w.heap.size]? = some (.cells f.row.toArray 55) by rw [hW0]; exact heap_alloc_at _ _ _ rfl)
  have HB0 := hid (show Below w.heap.size w W0 by rw [hW0]; exact (Below.refl _ _).alloc (Nat.le_refl _) _)
  clear hW0
  have HC := hid (H.out.still HB0.out)
  have HBB := hid (show Below B w W0 from HB0.out.mono (by have h1 := HLT.out; have h2 := HGB.out; omega))
  have hbx : w.heap.size < W0.heap.size := (Array.getElem?_eq_some_iff.1 KB.out).1
  have c4 : W0.cell? ⟨g, 4, none⟩ = some (.slice ka n kc) := HC.out.c4
  rw [← HNA.out] at h0
  have d0 : ((n : Int) == 0) = false := by simp; omega
  have hn0 : 0 < n := by omega
  have d1 : decide ((0 : Int) < (n : Int)) = true := decide_eq_true (by omega)
  obtain ⟨x, hx⟩ : ∃ x, Kl[n - 1]? = some x := ⟨_, List.getElem?_eq_getElem (by rw [← HNA.out]; omega)⟩
  have hnear : nearB m1 x f = true := by
    unfold keepG at hkeep
    rw [List.getLast?_eq_getElem?, ← HNA.out, hx] at hkeep
    exact hkeep
  have hxo := hok x (List.mem_of_getElem? hx)
  obtain ⟨bk, hka, hrow, hbl⟩ := own_at HC.out.k hx
  subst hka
  have hc := row_of hrow hx ((n - 1) * 10) rfl
  have HNQ := hid (show ∀ W, Calls Try.prog 92 #[.agg #[.int .i64 x.t, .int .i64 x.x, .int .i64 x.y, .int .i64 x.z, .int .i64 x.e, .int .i64 x.a, .int .i64 x.b, .int .i64 x.c, .int .i64 x.d, .int .i64 x.g], .agg #[.int .i64 f.t, .int .i64 f.x, .int .i64 f.y, .int .i64 f.z, .int .i64 f.e, .int .i64 f.a, .int .i64 f.b, .int .i64 f.c, .int .i64 f.d, .int .i64 f.g], .agg #[.int .i64 m0, .int .i64 m1, .int .i64 m2, .int .i64 m3]] W fun r w' => r = .returned (.bool true) ∧ Below W.heap.size W w' from fun W => hnear ▸ nearX_any x f m0 m1 m2 m3 W hxo hf hm)
  have cm0 := fun d os => cell_regrown HC.out.c0 d os
  have cm1 := fun d os => cell_regrown HC.out.c1 d os
  have cm2 := fun d os => cell_regrown HC.out.c2 d os
  have cm3 := fun d os => cell_regrown HC.out.c3 d os
  have cm4 := fun d os => cell_regrown HC.out.c4 d os
  have p0 := fun d os => cell_regrown (w := W0) (a := ⟨bk, (n - 1) * 10, none⟩) (v := .int .i64 x.t) (hc 0 (by decide)) d os
  have p1 := fun d os => cell_regrown (w := W0) (a := ⟨bk, (n - 1) * 10 + 1, none⟩) (v := .int .i64 x.x) (hc 1 (by decide)) d os
  have p2 := fun d os => cell_regrown (w := W0) (a := ⟨bk, (n - 1) * 10 + 2, none⟩) (v := .int .i64 x.y) (hc 2 (by decide)) d os
  have p3 := fun d os => cell_regrown (w := W0) (a := ⟨bk, (n - 1) * 10 + 3, none⟩) (v := .int .i64 x.z) (hc 3 (by decide)) d os
  have p4 := fun d os => cell_regrown (w := W0) (a := ⟨bk, (n - 1) * 10 + 4, none⟩) (v := .int .i64 x.e) (hc 4 (by decide)) d os
  have p5 := fun d os => cell_regrown (w := W0) (a := ⟨bk, (n - 1) * 10 + 5, none⟩) (v := .int .i64 x.a) (hc 5 (by decide)) d os
  have p6 := fun d os => cell_regrown (w := W0) (a := ⟨bk, (n - 1) * 10 + 6, none⟩) (v := .int .i64 x.b) (hc 6 (by decide)) d os
  have p7 := fun d os => cell_regrown (w := W0) (a := ⟨bk, (n - 1) * 10 + 7, none⟩) (v := .int .i64 x.c) (hc 7 (by decide)) d os
  have p8 := fun d os => cell_regrown (w := W0) (a := ⟨bk, (n - 1) * 10 + 8, none⟩) (v := .int .i64 x.d) (hc 8 (by decide)) d os
  have p9 := fun d os => cell_regrown (w := W0) (a := ⟨bk, (n - 1) * 10 + 9, none⟩) (v := .int .i64 x.g) (hc 9 (by decide)) d os
  have q0 := fun d os => cell_regrown (w := W0) (a := ⟨w.heap.size, 0, none⟩) (v := .int .i64 f.t) ((cell_row (j := 0) KB.out).trans rfl) d os
  have q1 := fun d os => cell_regrown (w := W0) (a := ⟨w.heap.size, 1, none⟩) (v := .int .i64 f.x) ((cell_row (j := 1) KB.out).trans rfl) d os
  have q2 := fun d os => cell_regrown (w := W0) (a := ⟨w.heap.size, 2, none⟩) (v := .int .i64 f.y) ((cell_row (j := 2) KB.out).trans rfl) d os
  have q3 := fun d os => cell_regrown (w := W0) (a := ⟨w.heap.size, 3, none⟩) (v := .int .i64 f.z) ((cell_row (j := 3) KB.out).trans rfl) d os
  have q4 := fun d os => cell_regrown (w := W0) (a := ⟨w.heap.size, 4, none⟩) (v := .int .i64 f.e) ((cell_row (j := 4) KB.out).trans rfl) d os
  have q5 := fun d os => cell_regrown (w := W0) (a := ⟨w.heap.size, 5, none⟩) (v := .int .i64 f.a) ((cell_row (j := 5) KB.out).trans rfl) d os
  have q6 := fun d os => cell_regrown (w := W0) (a := ⟨w.heap.size, 6, none⟩) (v := .int .i64 f.b) ((cell_row (j := 6) KB.out).trans rfl) d os
  have q7 := fun d os => cell_regrown (w := W0) (a := ⟨w.heap.size, 7, none⟩) (v := .int .i64 f.c) ((cell_row (j := 7) KB.out).trans rfl) d os
  have q8 := fun d os => cell_regrown (w := W0) (a := ⟨w.heap.size, 8, none⟩) (v := .int .i64 f.d) ((cell_row (j := 8) KB.out).trans rfl) d os
  have q9 := fun d os => cell_regrown (w := W0) (a := ⟨w.heap.size, 9, none⟩) (v := .int .i64 f.g) ((cell_row (j := 9) KB.out).trans rfl) d os
  clear hc hrow hx hnear hxo hkeep
  go_wp2_with fail
  refine wp_region_quiet_below (by kernel_rfl) (by kernel_rfl) ?_
  repeat (first | go_big_quiet_step ((go_at_call 92; with_reducible exact Calls.regrown_of (HNQ.out _))) | quiet_step ((go_at_call 92; with_reducible exact Calls.regrown_of (HNQ.out _))))
  refine wpQuiet_nil ?_
  intro _ hw'
  obtain ⟨⟨dqV, osV⟩, hw2⟩ := hw'
  subst hw2
  have HQV := hid (below_regrown W0 dqV osV)
  generalize Sort.grow (redrawn W0 dqV) osV = V at HQV ⊢
  have hsV := HQV.out.size
  clear cm0 cm1 cm2 cm3 cm4 p0 p1 p2 p3 p4 p5 p6 p7 p8 p9 q0 q1 q2 q3 q4 q5 q6 q7 q8 q9
  have HBV := hid (HBB.out.trans (HQV.out.mono (by have h1 := HLT.out; have h2 := HGB.out; have h3 := HB0.out.size; omega)))
  have HCV := hid (HC.out.still HQV.out)
  have KBV := hid (heap_still HQV.out KB.out)
  have hbv : w.heap.size < V.heap.size := (Array.getElem?_eq_some_iff.1 KBV.out).1
  have hbw := HB0.out.size
  have HBXL := hid (fun k (hk : (Value.slice (some ⟨bk, 0, none⟩) n kc).ownBlock = some k) => show k < w.heap.size from own_blocks_lt H.out.k hk)
  have HBXR := hid (fun k (hk : (Value.slice ra r rc).ownBlock = some k) => show k < w.heap.size from own_blocks_lt H.out.r hk)
  have HBXG := hid (show g < w.heap.size from HLT.out)
  clear HQV KB HC
  go_wp2_with fail
  refine (drop_any B g m0 m1 m2 m3 Kl Rl I _ _ iv _ HCV.out (by rw [← HNR.out]; exact hn)).mono ?_
  rintro r9 w1 ⟨rfl, ⟨iv, hc1⟩, hb1, hx1⟩
  have KB := hid (hx1 _ _ KBV.out)
  have HC1 := hid hc1
  have HB1 := hid (HBV.out.trans hb1)
  have HKR := hid (show ∀ b, (Value.slice (some ⟨bk, 0, none⟩) n kc).ownBlock = some b → (Value.slice none 0 0).ownBlock ≠ some b from fun _ _ => by simp [Value.ownBlock])
  have HBX := hid (show (Value.slice (some ⟨bk, 0, none⟩) n kc).ownBlock ≠ some w.heap.size from fun e => by have := HBXL.out _ e; omega)
  clear hc1 hb1 hx1 HCV KBV HBXL HBXR
  go_wp2_with fail
  refine gen_act (fun A0 hA => ?_)
  refine wp_region_by (by kernel_rfl) (by kernel_rfl) [some 32, some 33, some 34, some 35, some 36, some 37, some 38, some 39, some 40, some 41, none] rfl (by decide) (StR (fun j => ([.pointer (some ⟨g, 0, none⟩), .pointer (some ⟨g, 0, none⟩), .pointer (some ⟨g, 0, none⟩), .pointer (some ⟨g, 4, none⟩), .slice (some ⟨bk, 0, none⟩) n kc, .agg #[.int .i64 f.t, .int .i64 f.x, .int .i64 f.y, .int .i64 f.z, .int .i64 f.e, .int .i64 f.a, .int .i64 f.b, .int .i64 f.c, .int .i64 f.d, .int .i64 f.g], undef, undef, .pointer (some ⟨g, 0, none⟩), .pointer (some ⟨g, 4, none⟩), undef] : List Value).getD j undef) [6, 7, 10] [4] (fun kk vv WW => (match kk with | 0 => WW.heap[g]? = some (.cells #[.int .i64 m0, .int .i64 m1, .int .i64 m2, .int .i64 m3, .slice (some ⟨bk, 0, none⟩) n kc, .slice none 0 0, iv] 173) ∧ OwnF WW B (.slice (some ⟨bk, 0, none⟩) n kc) Kl | 1 => WW.heap[g]? = some (.cells #[.int .i64 m0, .int .i64 m1, .int .i64 m2, .int .i64 m3, .slice (some ⟨bk, 0, none⟩) n kc, .slice none 0 0, iv] 173) ∧ OwnF WW B (.slice (some ⟨bk, 0, none⟩) n kc) Kl ∧ (∃ q, vv 0 = .slice (some ⟨q, 0, none⟩) 1 1 ∧ WW.heap[q]? = some (.cells #[.int .i64 f.t, .int .i64 f.x, .int .i64 f.y, .int .i64 f.z, .int .i64 f.e, .int .i64 f.a, .int .i64 f.b, .int .i64 f.c, .int .i64 f.d, .int .i64 f.g] 55)) | 2 => WW.heap[g]? = some (.cells #[.int .i64 m0, .int .i64 m1, .int .i64 m2, .int .i64 m3, .slice (some ⟨bk, 0, none⟩) n kc, .slice none 0 0, iv] 173) ∧ OwnF WW B (vv 1) (Kl ++ [f]) ∧ (∀ b, Value.ownBlock (vv 1) = some b → Value.ownBlock (.slice none 0 0) ≠ some b) | _ => WW.heap[g]? = some (.cells #[.int .i64 m0, .int .i64 m1, .int .i64 m2, .int .i64 m3, (vv 1), .slice none 0 0, iv] 173) ∧ OwnF WW B (vv 1) (Kl ++ [f]) ∧ (∀ b, Value.ownBlock (vv 1) = some b → Value.ownBlock (.slice none 0 0) ≠ some b)) ∧ Below B w WW ∧ w1.heap.size ≤ WW.heap.size ∧ WW.heap[w.heap.size]? = some (.cells f.row.toArray 55) ∧ OwnF WW B (.slice none 0 0) ([] : List Fx) ∧ OwnI2 WW B iv (I ++ offs Rl))) (selfF A0 _) (putF_self A0 _)
    (StR.start ⟨⟨(HC1.out.still (Below.refl _ _).drew).hg, (HC1.out.still (Below.refl _ _).drew).k⟩, HB1.out.drew, Nat.le_refl _, heap_still (Below.refl _ _).drew KB.out, (HC1.out.still (Below.refl _ _).drew).r, (HC1.out.still (Below.refl _ _).drew).i⟩ (fun _ => rfl)) ?hsA ?htA
  case hsA =>
    refine ⟨?_, ?_, ?_, ?_, ?_, ?_, ?_, ?_, ?_, ?_, ?_, trivial⟩
    · intro K L us W hK0 hL hd hR
      have hK := hid (fun v9 A9 h1 (h3 : v9 = .pointer (some ⟨g, 0, none⟩)) => hK0 v9 A9 W h1 (hR.pure (by decide) h3)); clear hK0
      clear hd
      simp only [putF]
      rw [hA]
      go_frame
      go_wp2_with fail
      exact hK.out _ _ (by rw [hA]; simp only [putF]; kernel_rfl) rfl
    · intro K L us W hK0 hL hd hR
      have hK := hid (fun v9 A9 h1 (h3 : v9 = .pointer (some ⟨g, 0, none⟩)) => hK0 v9 A9 W h1 (hR.pure (by decide) h3)); clear hK0
      clear hd
      simp only [putF]
      rw [hA]
      go_frame
      go_wp2_with fail
      exact hK.out _ _ (by rw [hA]; simp only [putF]; kernel_rfl) rfl
    · intro K L us W hK0 hL hd hR
      have e1 : us 1 = .pointer (some ⟨g, 0, none⟩) := hR.vals 1 (by decide) (all_on hd ⟨1, Ground.data⟩ (by simp) rfl)
      have hK := hid (fun v9 A9 h1 (h3 : v9 = .pointer (some ⟨g, 0, none⟩)) => hK0 v9 A9 W h1 (hR.pure (by decide) h3)); clear hK0
      clear hd
      simp only [putF]
      rw [hA, e1]
      go_frame
      go_wp2_with fail
      exact hK.out _ _ (by rw [hA]; simp only [putF]; rw [e1]; kernel_rfl) rfl
    · intro K L us W hK0 hL hd hR
      have e2 : us 2 = .pointer (some ⟨g, 0, none⟩) := hR.vals 2 (by decide) (all_on hd ⟨2, Ground.data⟩ (by simp) rfl)
      have hK := hid (fun v9 A9 h1 (h3 : v9 = .pointer (some ⟨g, 4, none⟩)) => hK0 v9 A9 W h1 (hR.pure (by decide) h3)); clear hK0
      clear hd
      simp only [putF]
      rw [hA, e2]
      go_frame
      go_wp2_with fail
      exact hK.out _ _ (by rw [hA]; simp only [putF]; rw [e2]; kernel_rfl) rfl
    · intro K L us W hK0 hL hd hR
      have e3 : us 3 = .pointer (some ⟨g, 4, none⟩) := hR.vals 3 (by decide) (all_on hd ⟨3, Ground.data⟩ (by simp) rfl)
      have hK := hid (fun v9 A9 h1 (h3 : v9 = .slice (some ⟨bk, 0, none⟩) n kc) => hK0 v9 A9 W h1 (hR.pure (by decide) h3)); clear hK0
      have c0 : W.cell? ⟨g, 4, none⟩ = some (.slice (some ⟨bk, 0, none⟩) n kc) := by obtain ⟨k9, hk9, hS9⟩ := hR.early (j := 4) (by decide) hL (by decide); match k9, hk9, hS9 with | 0, _, hS9 => exact (cell_row (j := 4) hS9.1.1).trans rfl | 1, _, hS9 => exact (cell_row (j := 4) hS9.1.1).trans rfl | 2, _, hS9 => exact (cell_row (j := 4) hS9.1.1).trans rfl
      clear hd
      simp only [putF]
      rw [hA, e3]
      go_frame
      go_wp2_with fail
      exact hK.out _ _ (by rw [hA]; simp only [putF]; rw [e3]; kernel_rfl) rfl
    · intro K L us W hK0 hL hd hR
      have hK := hid (fun v9 A9 h1 (h3 : v9 = .agg #[.int .i64 f.t, .int .i64 f.x, .int .i64 f.y, .int .i64 f.z, .int .i64 f.e, .int .i64 f.a, .int .i64 f.b, .int .i64 f.c, .int .i64 f.d, .int .i64 f.g]) => hK0 v9 A9 W h1 (hR.pure (by decide) h3)); clear hK0
      have hx9 : W.heap[w.heap.size]? = some (.cells f.row.toArray 55) := by obtain ⟨_, _, _, hSq⟩ := hR.st; exact hSq.2.2.2.1
      clear hd
      simp only [putF]
      rw [hA]
      go_frame
      go_wp2_with (refine wpList_load_at rfl 55 (.tmp 3) rfl rfl hx9 Try.underlying55 rfl size55f (row_arr f) ?_)
      exact hK.out _ _ (by rw [hA]; simp only [putF]; kernel_rfl) rfl
    · intro K L us W hK0 hL hd hR
      have e5 : us 5 = .agg #[.int .i64 f.t, .int .i64 f.x, .int .i64 f.y, .int .i64 f.z, .int .i64 f.e, .int .i64 f.a, .int .i64 f.b, .int .i64 f.c, .int .i64 f.d, .int .i64 f.g] := hR.vals 5 (by decide) (all_on hd ⟨5, Ground.data⟩ (by simp) rfl)
      have hS := hR.at 0 (by decide) (.inl rfl) hL
      have hK := hid (fun v9 A9 W9 h1 (hS' : (fun kk vv WW => (match kk with | 0 => WW.heap[g]? = some (.cells #[.int .i64 m0, .int .i64 m1, .int .i64 m2, .int .i64 m3, .slice (some ⟨bk, 0, none⟩) n kc, .slice none 0 0, iv] 173) ∧ OwnF WW B (.slice (some ⟨bk, 0, none⟩) n kc) Kl | 1 => WW.heap[g]? = some (.cells #[.int .i64 m0, .int .i64 m1, .int .i64 m2, .int .i64 m3, .slice (some ⟨bk, 0, none⟩) n kc, .slice none 0 0, iv] 173) ∧ OwnF WW B (.slice (some ⟨bk, 0, none⟩) n kc) Kl ∧ (∃ q, vv 0 = .slice (some ⟨q, 0, none⟩) 1 1 ∧ WW.heap[q]? = some (.cells #[.int .i64 f.t, .int .i64 f.x, .int .i64 f.y, .int .i64 f.z, .int .i64 f.e, .int .i64 f.a, .int .i64 f.b, .int .i64 f.c, .int .i64 f.d, .int .i64 f.g] 55)) | 2 => WW.heap[g]? = some (.cells #[.int .i64 m0, .int .i64 m1, .int .i64 m2, .int .i64 m3, .slice (some ⟨bk, 0, none⟩) n kc, .slice none 0 0, iv] 173) ∧ OwnF WW B (vv 1) (Kl ++ [f]) ∧ (∀ b, Value.ownBlock (vv 1) = some b → Value.ownBlock (.slice none 0 0) ≠ some b) | _ => WW.heap[g]? = some (.cells #[.int .i64 m0, .int .i64 m1, .int .i64 m2, .int .i64 m3, (vv 1), .slice none 0 0, iv] 173) ∧ OwnF WW B (vv 1) (Kl ++ [f]) ∧ (∀ b, Value.ownBlock (vv 1) = some b → Value.ownBlock (.slice none 0 0) ≠ some b)) ∧ Below B w WW ∧ w1.heap.size ≤ WW.heap.size ∧ WW.heap[w.heap.size]? = some (.cells f.row.toArray 55) ∧ OwnF WW B (.slice none 0 0) ([] : List Fx) ∧ OwnI2 WW B iv (I ++ offs Rl)) 1 (fun j => if j = 0 then v9 else selV [6, 7, 10] us j) W9) => hK0 v9 A9 W9 h1 (hR.next (by decide) 0 (by decide) (.inl rfl) hL hS' (fun h => absurd h (by decide)))); clear hK0
      obtain ⟨⟨hg4, ho4⟩, ⟨hB4, hz4, hx4, hr4, hi4⟩⟩ := hS
      have G4 := hid hg4
      have O4 := hid ho4
      clear hg4 ho4
      have B4 := hid hB4
      have X4 := hid hx4
      have R4 := hid hr4
      have I4 := hid hi4
      clear hB4 hx4 hr4 hi4
      clear hd
      simp only [putF]
      rw [hA, e5]
      go_frame
      go_wp2_with fail
      refine hK.out (.slice (some ⟨W.heap.size, 0, none⟩) 1 1) _ _ (by rw [hA]; simp only [putF]; rw [e5]; kernel_rfl) ?_
      exact ⟨⟨heap_still ((Below.refl W.heap.size W).alloc (Nat.le_refl _) (.cells #[.int .i64 f.t, .int .i64 f.x, .int .i64 f.y, .int .i64 f.z, .int .i64 f.e, .int .i64 f.a, .int .i64 f.b, .int .i64 f.c, .int .i64 f.d, .int .i64 f.g] 55)) G4.out, O4.out.grow ((Below.refl W.heap.size W).alloc (Nat.le_refl _) (.cells #[.int .i64 f.t, .int .i64 f.x, .int .i64 f.y, .int .i64 f.z, .int .i64 f.e, .int .i64 f.a, .int .i64 f.b, .int .i64 f.c, .int .i64 f.d, .int .i64 f.g] 55)), ⟨W.heap.size, rfl, heap_alloc_at _ _ _ rfl⟩⟩, B4.out.trans (((Below.refl W.heap.size W).alloc (Nat.le_refl _) (.cells #[.int .i64 f.t, .int .i64 f.x, .int .i64 f.y, .int .i64 f.z, .int .i64 f.e, .int .i64 f.a, .int .i64 f.b, .int .i64 f.c, .int .i64 f.d, .int .i64 f.g] 55)).mono (by have h1 := B4.out.size; have h2 := HLT.out; have h3 := HGB.out; omega)), by simp; omega, heap_still ((Below.refl W.heap.size W).alloc (Nat.le_refl _) (.cells #[.int .i64 f.t, .int .i64 f.x, .int .i64 f.y, .int .i64 f.z, .int .i64 f.e, .int .i64 f.a, .int .i64 f.b, .int .i64 f.c, .int .i64 f.d, .int .i64 f.g] 55)) X4.out, R4.out.grow ((Below.refl W.heap.size W).alloc (Nat.le_refl _) (.cells #[.int .i64 f.t, .int .i64 f.x, .int .i64 f.y, .int .i64 f.z, .int .i64 f.e, .int .i64 f.a, .int .i64 f.b, .int .i64 f.c, .int .i64 f.d, .int .i64 f.g] 55)), I4.out.grow ((Below.refl W.heap.size W).alloc (Nat.le_refl _) (.cells #[.int .i64 f.t, .int .i64 f.x, .int .i64 f.y, .int .i64 f.z, .int .i64 f.e, .int .i64 f.a, .int .i64 f.b, .int .i64 f.c, .int .i64 f.d, .int .i64 f.g] 55))⟩
    · intro K L us W hK0 hL hd hR
      have e4 : us 4 = .slice (some ⟨bk, 0, none⟩) n kc := hR.vals 4 (by decide) (all_on hd ⟨4, Ground.data⟩ (by simp) rfl)
      have hS := hR.at 1 (by decide) (.inr ⟨by decide, all_on hd ⟨6, Ground.data⟩ (by simp) rfl⟩) hL
      have hK := hid (fun v9 A9 W9 h1 (hS' : (fun kk vv WW => (match kk with | 0 => WW.heap[g]? = some (.cells #[.int .i64 m0, .int .i64 m1, .int .i64 m2, .int .i64 m3, .slice (some ⟨bk, 0, none⟩) n kc, .slice none 0 0, iv] 173) ∧ OwnF WW B (.slice (some ⟨bk, 0, none⟩) n kc) Kl | 1 => WW.heap[g]? = some (.cells #[.int .i64 m0, .int .i64 m1, .int .i64 m2, .int .i64 m3, .slice (some ⟨bk, 0, none⟩) n kc, .slice none 0 0, iv] 173) ∧ OwnF WW B (.slice (some ⟨bk, 0, none⟩) n kc) Kl ∧ (∃ q, vv 0 = .slice (some ⟨q, 0, none⟩) 1 1 ∧ WW.heap[q]? = some (.cells #[.int .i64 f.t, .int .i64 f.x, .int .i64 f.y, .int .i64 f.z, .int .i64 f.e, .int .i64 f.a, .int .i64 f.b, .int .i64 f.c, .int .i64 f.d, .int .i64 f.g] 55)) | 2 => WW.heap[g]? = some (.cells #[.int .i64 m0, .int .i64 m1, .int .i64 m2, .int .i64 m3, .slice (some ⟨bk, 0, none⟩) n kc, .slice none 0 0, iv] 173) ∧ OwnF WW B (vv 1) (Kl ++ [f]) ∧ (∀ b, Value.ownBlock (vv 1) = some b → Value.ownBlock (.slice none 0 0) ≠ some b) | _ => WW.heap[g]? = some (.cells #[.int .i64 m0, .int .i64 m1, .int .i64 m2, .int .i64 m3, (vv 1), .slice none 0 0, iv] 173) ∧ OwnF WW B (vv 1) (Kl ++ [f]) ∧ (∀ b, Value.ownBlock (vv 1) = some b → Value.ownBlock (.slice none 0 0) ≠ some b)) ∧ Below B w WW ∧ w1.heap.size ≤ WW.heap.size ∧ WW.heap[w.heap.size]? = some (.cells f.row.toArray 55) ∧ OwnF WW B (.slice none 0 0) ([] : List Fx) ∧ OwnI2 WW B iv (I ++ offs Rl)) 2 (fun j => if j = 1 then v9 else selV [6, 7, 10] us j) W9) => hK0 v9 A9 W9 h1 (hR.next (by decide) 1 (by decide) (.inr ⟨by decide, all_on hd ⟨6, Ground.data⟩ (by simp) rfl⟩) hL hS' (fun h => absurd h (by decide)))); clear hK0
      obtain ⟨⟨hg4, ho4, ⟨q, hq, hq4⟩⟩, ⟨hB4, hz4, hx4, hr4, hi4⟩⟩ := hS
      have e6 : us 6 = .slice (some ⟨q, 0, none⟩) 1 1 := hq
      have G4 := hid hg4
      have O4 := hid ho4
      have Q4 := hid hq4
      clear hg4 ho4 hq hq4
      have B4 := hid hB4
      have X4 := hid hx4
      have R4 := hid hr4
      have I4 := hid hi4
      clear hB4 hx4 hr4 hi4
      have HL1 := hid (show (Kl.map Fx.row).length + [f.row].length ≤ maxLen by rw [List.length_map, ← HNA.out, List.length_singleton]; unfold maxLen; omega)
      have HL2 := hid (show ((Kl.map Fx.row).length + [f.row].length) * 80 ≤ 140737488355328 by rw [List.length_map, ← HNA.out, List.length_singleton]; omega)
      have HL3 := hid (show B ≤ W.heap.size by have h1 := B4.out.size; have h2 := HLT.out; have h3 := HGB.out; omega)
      clear hd
      simp only [putF]
      rw [hA, e4, e6]
      go_frame
      go_wp2_with (first | (at_builtin; go_loud (refine wpList_append_rowsR rfl (.tmp 36) (.tmp 38) 106 rfl B 55 i0 _ 10 80 Try.underlying106 HI.out HZ0.out HZ1.out HZ2.out rfl (by decide) _ (Kl.map Fx.row) [f.row] rfl O4.out q 0 1 1 rfl rfl (rows_one (f := f) Q4.out) (rows_wide [f]) HL1.out HL2.out HL3.out ?_; intro v7 w7 ho1 ho2 ho3; have HO1 := hid ho1; have HO2 := hid ho2; have HO3 := hid ho3; clear ho1 ho2 ho3)))
      refine hK.out v7 _ _ (by rw [hA]; simp only [putF]; rw [e4, e6]; kernel_rfl) ?_
      have hb : ∀ k, (Value.ownBlock (.slice (some ⟨bk, 0, none⟩) n kc)) ≠ some k → k < W.heap.size → w7.heap[k]? = W.heap[k]? := fun k hk hlt => HO2.out.block k hlt (fun e => hk e.symm)
      have hgl : ∀ {k : Nat} {x : Obj}, W.heap[k]? = some x → k < W.heap.size := fun h => (Array.getElem?_eq_some_iff.1 h).1
      refine ⟨⟨(hb g (own_not O4.out G4.out (by decide)) (hgl G4.out)).trans G4.out, by have h1 := HO1.out; unfold OwnF; rw [List.map_append]; exact h1, fun b hb hb2 => by have hb3 : Value.ownBlock v7 = some b := hb; rcases HO3.out with e | e; (· exact HKR.out b (e ▸ hb3) hb2); (· rw [e] at hb3; injection hb3 with hb3; subst hb3; have := own_blocks_lt R4.out hb2; omega)⟩, below_grown B4.out HO2.out (fun k hk => OwnR.ownBlock O4.out k hk) HL3.out, by have h1 := HO2.out.size; omega, (hb _ HBX.out (hgl X4.out)).trans X4.out, R4.out.same (fun k e => hb k (fun e2 => HKR.out k e2 e) (own_blocks_lt R4.out e)), I4.out.same (fun k e => hb k (fun e2 => own_apart O4.out I4.out (by decide) k e2 e) (own_blocks_lt I4.out e))⟩
    · intro K L us W hK0 hL hd hR
      have e0 : us 0 = .pointer (some ⟨g, 0, none⟩) := hR.vals 0 (by decide) (all_on hd ⟨0, Ground.data⟩ (by simp) rfl)
      have hK := hid (fun v9 A9 h1 (h3 : v9 = .pointer (some ⟨g, 0, none⟩)) => hK0 v9 A9 W h1 (hR.pure (by decide) h3)); clear hK0
      clear hd
      simp only [putF]
      rw [hA, e0]
      go_frame
      go_wp2_with fail
      exact hK.out _ _ (by rw [hA]; simp only [putF]; rw [e0]; kernel_rfl) rfl
    · intro K L us W hK0 hL hd hR
      have e8 : us 8 = .pointer (some ⟨g, 0, none⟩) := hR.vals 8 (by decide) (all_on hd ⟨8, Ground.data⟩ (by simp) rfl)
      have hK := hid (fun v9 A9 h1 (h3 : v9 = .pointer (some ⟨g, 4, none⟩)) => hK0 v9 A9 W h1 (hR.pure (by decide) h3)); clear hK0
      clear hd
      simp only [putF]
      rw [hA, e8]
      go_frame
      go_wp2_with fail
      exact hK.out _ _ (by rw [hA]; simp only [putF]; rw [e8]; kernel_rfl) rfl
    · intro K L us W hK0 hL hd hR
      have e9 : us 9 = .pointer (some ⟨g, 4, none⟩) := hR.vals 9 (by decide) (all_on hd ⟨9, Ground.data⟩ (by simp) rfl)
      have hS := hR.at 2 (by decide) (.inr ⟨by decide, all_on hd ⟨7, Ground.data⟩ (by simp) rfl⟩) hL
      have hK := hid (fun v9 A9 W9 h1 (hS' : (fun kk vv WW => (match kk with | 0 => WW.heap[g]? = some (.cells #[.int .i64 m0, .int .i64 m1, .int .i64 m2, .int .i64 m3, .slice (some ⟨bk, 0, none⟩) n kc, .slice none 0 0, iv] 173) ∧ OwnF WW B (.slice (some ⟨bk, 0, none⟩) n kc) Kl | 1 => WW.heap[g]? = some (.cells #[.int .i64 m0, .int .i64 m1, .int .i64 m2, .int .i64 m3, .slice (some ⟨bk, 0, none⟩) n kc, .slice none 0 0, iv] 173) ∧ OwnF WW B (.slice (some ⟨bk, 0, none⟩) n kc) Kl ∧ (∃ q, vv 0 = .slice (some ⟨q, 0, none⟩) 1 1 ∧ WW.heap[q]? = some (.cells #[.int .i64 f.t, .int .i64 f.x, .int .i64 f.y, .int .i64 f.z, .int .i64 f.e, .int .i64 f.a, .int .i64 f.b, .int .i64 f.c, .int .i64 f.d, .int .i64 f.g] 55)) | 2 => WW.heap[g]? = some (.cells #[.int .i64 m0, .int .i64 m1, .int .i64 m2, .int .i64 m3, .slice (some ⟨bk, 0, none⟩) n kc, .slice none 0 0, iv] 173) ∧ OwnF WW B (vv 1) (Kl ++ [f]) ∧ (∀ b, Value.ownBlock (vv 1) = some b → Value.ownBlock (.slice none 0 0) ≠ some b) | _ => WW.heap[g]? = some (.cells #[.int .i64 m0, .int .i64 m1, .int .i64 m2, .int .i64 m3, (vv 1), .slice none 0 0, iv] 173) ∧ OwnF WW B (vv 1) (Kl ++ [f]) ∧ (∀ b, Value.ownBlock (vv 1) = some b → Value.ownBlock (.slice none 0 0) ≠ some b)) ∧ Below B w WW ∧ w1.heap.size ≤ WW.heap.size ∧ WW.heap[w.heap.size]? = some (.cells f.row.toArray 55) ∧ OwnF WW B (.slice none 0 0) ([] : List Fx) ∧ OwnI2 WW B iv (I ++ offs Rl)) 3 (fun j => if j = 2 then v9 else selV [6, 7, 10] us j) W9) => hK0 v9 A9 W9 h1 (hR.next (by decide) 2 (by decide) (.inr ⟨by decide, all_on hd ⟨7, Ground.data⟩ (by simp) rfl⟩) hL hS' (fun _ => by intro j hj; rw [List.mem_singleton.1 hj]; exact all_on hd ⟨4, Ground.phase⟩ (by simp) rfl))); clear hK0
      obtain ⟨⟨hg4, ho4, hap4⟩, ⟨hB4, hz4, hx4, hr4, hi4⟩⟩ := hS
      obtain ⟨v7, e7⟩ : ∃ v, us 7 = v := ⟨_, rfl⟩
      have ho5 : OwnF W B (us 7) (Kl ++ [f]) := ho4
      have hap5 : (∀ b, Value.ownBlock (us 7) = some b → Value.ownBlock (.slice none 0 0) ≠ some b) := hap4
      rw [e7] at ho5 hap5
      obtain ⟨a9, c9, e99⟩ := OwnR.slice ho5
      subst e99
      have G4 := hid hg4
      have O5 := hid ho5
      have AP5 := hid hap5
      clear ho4 ho5 hg4 hap4 hap5
      have B4 := hid hB4
      have X4 := hid hx4
      have R4 := hid hr4
      have I4 := hid hi4
      clear hB4 hx4 hr4 hi4
      have z1 : W.frozen? ⟨g, 4, none⟩ = false := by have hh := G4.out; simp [World.frozen?, hh]
      have z0 : W.cell? ⟨g, 4, none⟩ = some (.slice (some ⟨bk, 0, none⟩) n kc) := (cell_row (j := 4) G4.out).trans rfl
      generalize hl9 : ((Kl ++ [f]).map Fx.row).length = n9 at *
      have HL9 := hid hl9
      clear hl9
      clear hd
      simp only [putF]
      rw [hA, e9, e7]
      go_frame
      go_wp2_with fail
      refine hK.out undef _ _ (by rw [hA]; simp only [putF]; rw [e9, e7]; kernel_rfl) ?_
      have C9 := ClV.putK G4.out HGB.out R4.out I4.out O5.out AP5.out
      refine ⟨⟨?_, ?_, ?_⟩, below_set B4.out HGB.out _, by simp; omega, (setCell_other (fun e => by have h1 := HBXG.out; omega)).trans X4.out, C9.r, C9.i⟩
      · show _ = some (Obj.cells #[.int .i64 m0, .int .i64 m1, .int .i64 m2, .int .i64 m3, (us 7), .slice none 0 0, iv] 173)
        rw [e7]
        exact C9.hg
      · show OwnF _ B (us 7) (Kl ++ [f])
        rw [e7]
        exact C9.k
      · show (∀ b, Value.ownBlock (us 7) = some b → Value.ownBlock (.slice none 0 0) ≠ some b)
        rw [e7]
        exact AP5.out
  case htA =>
    intro L us W5 hall hR
    have hS := hR.last (fun i hi => match i, hi with | 0, _ => hall 6 (by decide) | 1, _ => hall 7 (by decide) | 2, _ => hall 10 (by decide))
    have e0 : us 0 = .pointer (some ⟨g, 0, none⟩) := hR.vals 0 (by decide) (hall 0 (by decide))
    have e1 : us 1 = .pointer (some ⟨g, 0, none⟩) := hR.vals 1 (by decide) (hall 1 (by decide))
    have e2 : us 2 = .pointer (some ⟨g, 0, none⟩) := hR.vals 2 (by decide) (hall 2 (by decide))
    have e3 : us 3 = .pointer (some ⟨g, 4, none⟩) := hR.vals 3 (by decide) (hall 3 (by decide))
    have e4 : us 4 = .slice (some ⟨bk, 0, none⟩) n kc := hR.vals 4 (by decide) (hall 4 (by decide))
    have e5 : us 5 = .agg #[.int .i64 f.t, .int .i64 f.x, .int .i64 f.y, .int .i64 f.z, .int .i64 f.e, .int .i64 f.a, .int .i64 f.b, .int .i64 f.c, .int .i64 f.d, .int .i64 f.g] := hR.vals 5 (by decide) (hall 5 (by decide))
    have e8 : us 8 = .pointer (some ⟨g, 0, none⟩) := hR.vals 8 (by decide) (hall 8 (by decide))
    have e9 : us 9 = .pointer (some ⟨g, 4, none⟩) := hR.vals 9 (by decide) (hall 9 (by decide))
    clear hR hall
    obtain ⟨⟨hg5, ho5, hap5⟩, hB5, _, hx5, hr5, hi5⟩ := hS
    obtain ⟨v6, e6⟩ : ∃ v, us 6 = v := ⟨_, rfl⟩
    obtain ⟨v7, e7⟩ : ∃ v, us 7 = v := ⟨_, rfl⟩
    have hg6 : W5.heap[g]? = some (.cells #[.int .i64 m0, .int .i64 m1, .int .i64 m2, .int .i64 m3, (us 7), .slice none 0 0, iv] 173) := hg5
    have ho6 : OwnF W5 B (us 7) (Kl ++ [f]) := ho5
    have hap6 : (∀ b, Value.ownBlock (us 7) = some b → Value.ownBlock (.slice none 0 0) ≠ some b) := hap5
    rw [e7] at hg6 ho6 hap6
    have C5 := hid (show ClV W5 B g m0 m1 m2 m3 (Kl ++ [f]) ([] : List Fx) (I ++ offs Rl) v7 (.slice none 0 0) iv from ⟨hg6, HGB.out, ho6, hr5, hi5, hap6⟩)
    have B5 := hid hB5
    have X5 := hid hx5
    clear hg5 ho5 hB5 hr5 hi5 hg6 ho6 hap5 hap6 hx5
    simp only [putF]
    rw [hA, e0, e1, e2, e3, e4, e5, e8, e9, e6, e7]
    go_frame
    clear hA e6 e7 e0 e1 e2 e3 e4 e5 e8 e9
    go_wp2_with fail
    (first | (refine bodyPost_ret (results_none rfl _ _ _) rfl ?_) | go_end0)
    exact ⟨rfl, ⟨_, _, _, C5.out⟩, B5.out⟩
set_option maxRecDepth 100000 in
set_option maxHeartbeats 3200000 in
/-- a fix is put aside: there are not three yet -/
theorem take_short (B g : Nat) (m0 m1 m2 m3 : Int) (Kl Rl : List Fx) (I : List (Int × Int)) (kv rv iv : Value) (f : Fx) (w : World) (h : ClV w B g m0 m1 m2 m3 Kl Rl I kv rv iv) (hk : Kl.length ≤ 100000) (hf : f.ok = true) (hm : 0 ≤ m1 ∧ m1 ≤ 1000000) (hok : ∀ p ∈ Kl, p.ok = true) (h0 : 0 < Kl.length) (hkeep : keepG (nearB m1) Kl f = false) (h3 : Rl.length < 2) :
    Calls Try.prog 121 #[.pointer (some ⟨g, 0, none⟩), .agg f.row.toArray] w fun r w' => r = .returned (.tuple #[]) ∧ Cl w' B g m0 m1 m2 m3 (Kl, Rl ++ [f], I) ∧ Below B w w' := by
  have HLT := hid h.lt
  have HGB := hid h.hB
  have HKR := hid h.kr
  obtain ⟨ka, kc, hkv⟩ := OwnR.slice h.k
  rw [List.length_map] at hkv
  subst hkv
  obtain ⟨ra, rc, hrv⟩ := OwnR.slice h.r
  rw [List.length_map] at hrv
  subst hrv
  have H := hid h
  clear h
  obtain ⟨i0, hi, hz0, hz1, hz2⟩ := info_parts info55f
  have HI := hid hi
  have HZ0 := hid hz0
  have HZ1 := hid hz1
  have HZ2 := hid hz2
  clear hi hz0 hz1 hz2
  obtain ⟨n, hnn⟩ : ∃ n, n = Kl.length := ⟨_, rfl⟩
  obtain ⟨r, hrr⟩ : ∃ r, r = Rl.length := ⟨_, rfl⟩
  rw [← hnn] at H HKR hk
  rw [← hrr] at H HKR
  (try rw [← hrr] at hn)
  have HNA := hid hnn
  have HNR := hid hrr
  clear hnn hrr
  go_enter Try.func121, Try.ntmps121
  go_upto_region 1 with fail
  refine gen_world (fun W0 hW0 => ?_)
  have KB := hid (show W0.heap[w.heap.size]? = some (.cells f.row.toArray 55) by rw [hW0]; exact heap_alloc_at _ _ _ rfl)
  have HB0 := hid (show Below w.heap.size w W0 by rw [hW0]; exact (Below.refl _ _).alloc (Nat.le_refl _) _)
  clear hW0
  have HC := hid (H.out.still HB0.out)
  have HBB := hid (show Below B w W0 from HB0.out.mono (by have h1 := HLT.out; have h2 := HGB.out; omega))
  have hbx : w.heap.size < W0.heap.size := (Array.getElem?_eq_some_iff.1 KB.out).1
  have c4 : W0.cell? ⟨g, 4, none⟩ = some (.slice ka n kc) := HC.out.c4
  rw [← HNA.out] at h0
  rw [← HNR.out] at h3
  have d0 : ((n : Int) == 0) = false := by simp; omega
  have hn0 : 0 < n := by omega
  have d1 : decide ((0 : Int) < (n : Int)) = true := decide_eq_true (by omega)
  obtain ⟨x, hx⟩ : ∃ x, Kl[n - 1]? = some x := ⟨_, List.getElem?_eq_getElem (by rw [← HNA.out]; omega)⟩
  have hnear : nearB m1 x f = false := by
    unfold keepG at hkeep
    rw [List.getLast?_eq_getElem?, ← HNA.out, hx] at hkeep
    exact hkeep
  have hxo := hok x (List.mem_of_getElem? hx)
  obtain ⟨bk, hka, hrow, hbl⟩ := own_at HC.out.k hx
  subst hka
  have hc := row_of hrow hx ((n - 1) * 10) rfl
  have HNQ := hid (show ∀ W, Calls Try.prog 92 #[.agg #[.int .i64 x.t, .int .i64 x.x, .int .i64 x.y, .int .i64 x.z, .int .i64 x.e, .int .i64 x.a, .int .i64 x.b, .int .i64 x.c, .int .i64 x.d, .int .i64 x.g], .agg #[.int .i64 f.t, .int .i64 f.x, .int .i64 f.y, .int .i64 f.z, .int .i64 f.e, .int .i64 f.a, .int .i64 f.b, .int .i64 f.c, .int .i64 f.d, .int .i64 f.g], .agg #[.int .i64 m0, .int .i64 m1, .int .i64 m2, .int .i64 m3]] W fun r w' => r = .returned (.bool false) ∧ Below W.heap.size W w' from fun W => hnear ▸ nearX_any x f m0 m1 m2 m3 W hxo hf hm)
  have cm0 := fun d os => cell_regrown HC.out.c0 d os
  have cm1 := fun d os => cell_regrown HC.out.c1 d os
  have cm2 := fun d os => cell_regrown HC.out.c2 d os
  have cm3 := fun d os => cell_regrown HC.out.c3 d os
  have cm4 := fun d os => cell_regrown HC.out.c4 d os
  have p0 := fun d os => cell_regrown (w := W0) (a := ⟨bk, (n - 1) * 10, none⟩) (v := .int .i64 x.t) (hc 0 (by decide)) d os
  have p1 := fun d os => cell_regrown (w := W0) (a := ⟨bk, (n - 1) * 10 + 1, none⟩) (v := .int .i64 x.x) (hc 1 (by decide)) d os
  have p2 := fun d os => cell_regrown (w := W0) (a := ⟨bk, (n - 1) * 10 + 2, none⟩) (v := .int .i64 x.y) (hc 2 (by decide)) d os
  have p3 := fun d os => cell_regrown (w := W0) (a := ⟨bk, (n - 1) * 10 + 3, none⟩) (v := .int .i64 x.z) (hc 3 (by decide)) d os
  have p4 := fun d os => cell_regrown (w := W0) (a := ⟨bk, (n - 1) * 10 + 4, none⟩) (v := .int .i64 x.e) (hc 4 (by decide)) d os
  have p5 := fun d os => cell_regrown (w := W0) (a := ⟨bk, (n - 1) * 10 + 5, none⟩) (v := .int .i64 x.a) (hc 5 (by decide)) d os
  have p6 := fun d os => cell_regrown (w := W0) (a := ⟨bk, (n - 1) * 10 + 6, none⟩) (v := .int .i64 x.b) (hc 6 (by decide)) d os
  have p7 := fun d os => cell_regrown (w := W0) (a := ⟨bk, (n - 1) * 10 + 7, none⟩) (v := .int .i64 x.c) (hc 7 (by decide)) d os
  have p8 := fun d os => cell_regrown (w := W0) (a := ⟨bk, (n - 1) * 10 + 8, none⟩) (v := .int .i64 x.d) (hc 8 (by decide)) d os
  have p9 := fun d os => cell_regrown (w := W0) (a := ⟨bk, (n - 1) * 10 + 9, none⟩) (v := .int .i64 x.g) (hc 9 (by decide)) d os
  have q0 := fun d os => cell_regrown (w := W0) (a := ⟨w.heap.size, 0, none⟩) (v := .int .i64 f.t) ((cell_row (j := 0) KB.out).trans rfl) d os
  have q1 := fun d os => cell_regrown (w := W0) (a := ⟨w.heap.size, 1, none⟩) (v := .int .i64 f.x) ((cell_row (j := 1) KB.out).trans rfl) d os
  have q2 := fun d os => cell_regrown (w := W0) (a := ⟨w.heap.size, 2, none⟩) (v := .int .i64 f.y) ((cell_row (j := 2) KB.out).trans rfl) d os
  have q3 := fun d os => cell_regrown (w := W0) (a := ⟨w.heap.size, 3, none⟩) (v := .int .i64 f.z) ((cell_row (j := 3) KB.out).trans rfl) d os
  have q4 := fun d os => cell_regrown (w := W0) (a := ⟨w.heap.size, 4, none⟩) (v := .int .i64 f.e) ((cell_row (j := 4) KB.out).trans rfl) d os
  have q5 := fun d os => cell_regrown (w := W0) (a := ⟨w.heap.size, 5, none⟩) (v := .int .i64 f.a) ((cell_row (j := 5) KB.out).trans rfl) d os
  have q6 := fun d os => cell_regrown (w := W0) (a := ⟨w.heap.size, 6, none⟩) (v := .int .i64 f.b) ((cell_row (j := 6) KB.out).trans rfl) d os
  have q7 := fun d os => cell_regrown (w := W0) (a := ⟨w.heap.size, 7, none⟩) (v := .int .i64 f.c) ((cell_row (j := 7) KB.out).trans rfl) d os
  have q8 := fun d os => cell_regrown (w := W0) (a := ⟨w.heap.size, 8, none⟩) (v := .int .i64 f.d) ((cell_row (j := 8) KB.out).trans rfl) d os
  have q9 := fun d os => cell_regrown (w := W0) (a := ⟨w.heap.size, 9, none⟩) (v := .int .i64 f.g) ((cell_row (j := 9) KB.out).trans rfl) d os
  clear hc hrow hx hnear hxo hkeep
  go_wp2_with fail
  refine wp_region_quiet_below (by kernel_rfl) (by kernel_rfl) ?_
  repeat (first | go_big_quiet_step ((go_at_call 92; with_reducible exact Calls.regrown_of (HNQ.out _))) | quiet_step ((go_at_call 92; with_reducible exact Calls.regrown_of (HNQ.out _))))
  refine wpQuiet_nil ?_
  intro _ hw'
  obtain ⟨⟨dqV, osV⟩, hw2⟩ := hw'
  subst hw2
  have HQV := hid (below_regrown W0 dqV osV)
  generalize Sort.grow (redrawn W0 dqV) osV = V at HQV ⊢
  have hsV := HQV.out.size
  clear cm0 cm1 cm2 cm3 cm4 p0 p1 p2 p3 p4 p5 p6 p7 p8 p9 q0 q1 q2 q3 q4 q5 q6 q7 q8 q9
  have HBV := hid (HBB.out.trans (HQV.out.mono (by have h1 := HLT.out; have h2 := HGB.out; have h3 := HB0.out.size; omega)))
  have HCV := hid (HC.out.still HQV.out)
  have KBV := hid (heap_still HQV.out KB.out)
  have hbv : w.heap.size < V.heap.size := (Array.getElem?_eq_some_iff.1 KBV.out).1
  have hbw := HB0.out.size
  have HBXL := hid (fun k (hk : (Value.slice (some ⟨bk, 0, none⟩) n kc).ownBlock = some k) => show k < w.heap.size from own_blocks_lt H.out.k hk)
  have HBXR := hid (fun k (hk : (Value.slice ra r rc).ownBlock = some k) => show k < w.heap.size from own_blocks_lt H.out.r hk)
  have HBXG := hid (show g < w.heap.size from HLT.out)
  clear HQV KB HC
  have KB := hid KBV.out
  have HBX := hid (show (Value.slice ra r rc).ownBlock ≠ some w.heap.size from fun e => by have := HBXR.out _ e; omega)
  clear KBV HBXL HBXR
  go_wp2_with fail
  refine gen_act (fun A0 hA => ?_)
  refine wp_region_by (by kernel_rfl) (by kernel_rfl) [some 42, some 43, some 44, some 45, some 46, some 47, some 48, some 49, some 50, some 51, none] rfl (by decide) (StR (fun j => ([.pointer (some ⟨g, 0, none⟩), .pointer (some ⟨g, 0, none⟩), .pointer (some ⟨g, 0, none⟩), .pointer (some ⟨g, 5, none⟩), .slice ra r rc, .agg #[.int .i64 f.t, .int .i64 f.x, .int .i64 f.y, .int .i64 f.z, .int .i64 f.e, .int .i64 f.a, .int .i64 f.b, .int .i64 f.c, .int .i64 f.d, .int .i64 f.g], undef, undef, .pointer (some ⟨g, 0, none⟩), .pointer (some ⟨g, 5, none⟩), undef] : List Value).getD j undef) [6, 7, 10] [4] (fun kk vv WW => (match kk with | 0 => WW.heap[g]? = some (.cells #[.int .i64 m0, .int .i64 m1, .int .i64 m2, .int .i64 m3, .slice (some ⟨bk, 0, none⟩) n kc, .slice ra r rc, iv] 173) ∧ OwnF WW B (.slice ra r rc) Rl | 1 => WW.heap[g]? = some (.cells #[.int .i64 m0, .int .i64 m1, .int .i64 m2, .int .i64 m3, .slice (some ⟨bk, 0, none⟩) n kc, .slice ra r rc, iv] 173) ∧ OwnF WW B (.slice ra r rc) Rl ∧ (∃ q, vv 0 = .slice (some ⟨q, 0, none⟩) 1 1 ∧ WW.heap[q]? = some (.cells #[.int .i64 f.t, .int .i64 f.x, .int .i64 f.y, .int .i64 f.z, .int .i64 f.e, .int .i64 f.a, .int .i64 f.b, .int .i64 f.c, .int .i64 f.d, .int .i64 f.g] 55)) | 2 => WW.heap[g]? = some (.cells #[.int .i64 m0, .int .i64 m1, .int .i64 m2, .int .i64 m3, .slice (some ⟨bk, 0, none⟩) n kc, .slice ra r rc, iv] 173) ∧ OwnF WW B (vv 1) (Rl ++ [f]) ∧ (∀ b, Value.ownBlock (.slice (some ⟨bk, 0, none⟩) n kc) = some b → Value.ownBlock (vv 1) ≠ some b) | _ => WW.heap[g]? = some (.cells #[.int .i64 m0, .int .i64 m1, .int .i64 m2, .int .i64 m3, .slice (some ⟨bk, 0, none⟩) n kc, (vv 1), iv] 173) ∧ OwnF WW B (vv 1) (Rl ++ [f]) ∧ (∀ b, Value.ownBlock (.slice (some ⟨bk, 0, none⟩) n kc) = some b → Value.ownBlock (vv 1) ≠ some b)) ∧ Below B w WW ∧ V.heap.size ≤ WW.heap.size ∧ WW.heap[w.heap.size]? = some (.cells f.row.toArray 55) ∧ OwnF WW B (.slice (some ⟨bk, 0, none⟩) n kc) Kl ∧ OwnI2 WW B iv I)) (selfF A0 _) (putF_self A0 _)
    (StR.start ⟨⟨(HCV.out.still (Below.refl _ _).drew).hg, (HCV.out.still (Below.refl _ _).drew).r⟩, HBV.out.drew, Nat.le_refl _, heap_still (Below.refl _ _).drew KB.out, (HCV.out.still (Below.refl _ _).drew).k, (HCV.out.still (Below.refl _ _).drew).i⟩ (fun _ => rfl)) ?hsS ?htS
  case hsS =>
    refine ⟨?_, ?_, ?_, ?_, ?_, ?_, ?_, ?_, ?_, ?_, ?_, trivial⟩
    · intro K L us W hK0 hL hd hR
      have hK := hid (fun v9 A9 h1 (h3 : v9 = .pointer (some ⟨g, 0, none⟩)) => hK0 v9 A9 W h1 (hR.pure (by decide) h3)); clear hK0
      clear hd
      simp only [putF]
      rw [hA]
      go_frame
      go_wp2_with fail
      exact hK.out _ _ (by rw [hA]; simp only [putF]; kernel_rfl) rfl
    · intro K L us W hK0 hL hd hR
      have hK := hid (fun v9 A9 h1 (h3 : v9 = .pointer (some ⟨g, 0, none⟩)) => hK0 v9 A9 W h1 (hR.pure (by decide) h3)); clear hK0
      clear hd
      simp only [putF]
      rw [hA]
      go_frame
      go_wp2_with fail
      exact hK.out _ _ (by rw [hA]; simp only [putF]; kernel_rfl) rfl
    · intro K L us W hK0 hL hd hR
      have e1 : us 1 = .pointer (some ⟨g, 0, none⟩) := hR.vals 1 (by decide) (all_on hd ⟨1, Ground.data⟩ (by simp) rfl)
      have hK := hid (fun v9 A9 h1 (h3 : v9 = .pointer (some ⟨g, 0, none⟩)) => hK0 v9 A9 W h1 (hR.pure (by decide) h3)); clear hK0
      clear hd
      simp only [putF]
      rw [hA, e1]
      go_frame
      go_wp2_with fail
      exact hK.out _ _ (by rw [hA]; simp only [putF]; rw [e1]; kernel_rfl) rfl
    · intro K L us W hK0 hL hd hR
      have e2 : us 2 = .pointer (some ⟨g, 0, none⟩) := hR.vals 2 (by decide) (all_on hd ⟨2, Ground.data⟩ (by simp) rfl)
      have hK := hid (fun v9 A9 h1 (h3 : v9 = .pointer (some ⟨g, 5, none⟩)) => hK0 v9 A9 W h1 (hR.pure (by decide) h3)); clear hK0
      clear hd
      simp only [putF]
      rw [hA, e2]
      go_frame
      go_wp2_with fail
      exact hK.out _ _ (by rw [hA]; simp only [putF]; rw [e2]; kernel_rfl) rfl
    · intro K L us W hK0 hL hd hR
      have e3 : us 3 = .pointer (some ⟨g, 5, none⟩) := hR.vals 3 (by decide) (all_on hd ⟨3, Ground.data⟩ (by simp) rfl)
      have hK := hid (fun v9 A9 h1 (h3 : v9 = .slice ra r rc) => hK0 v9 A9 W h1 (hR.pure (by decide) h3)); clear hK0
      have c0 : W.cell? ⟨g, 5, none⟩ = some (.slice ra r rc) := by obtain ⟨k9, hk9, hS9⟩ := hR.early (j := 4) (by decide) hL (by decide); match k9, hk9, hS9 with | 0, _, hS9 => exact (cell_row (j := 5) hS9.1.1).trans rfl | 1, _, hS9 => exact (cell_row (j := 5) hS9.1.1).trans rfl | 2, _, hS9 => exact (cell_row (j := 5) hS9.1.1).trans rfl
      clear hd
      simp only [putF]
      rw [hA, e3]
      go_frame
      go_wp2_with fail
      exact hK.out _ _ (by rw [hA]; simp only [putF]; rw [e3]; kernel_rfl) rfl
    · intro K L us W hK0 hL hd hR
      have hK := hid (fun v9 A9 h1 (h3 : v9 = .agg #[.int .i64 f.t, .int .i64 f.x, .int .i64 f.y, .int .i64 f.z, .int .i64 f.e, .int .i64 f.a, .int .i64 f.b, .int .i64 f.c, .int .i64 f.d, .int .i64 f.g]) => hK0 v9 A9 W h1 (hR.pure (by decide) h3)); clear hK0
      have hx9 : W.heap[w.heap.size]? = some (.cells f.row.toArray 55) := by obtain ⟨_, _, _, hSq⟩ := hR.st; exact hSq.2.2.2.1
      clear hd
      simp only [putF]
      rw [hA]
      go_frame
      go_wp2_with (refine wpList_load_at rfl 55 (.tmp 3) rfl rfl hx9 Try.underlying55 rfl size55f (row_arr f) ?_)
      exact hK.out _ _ (by rw [hA]; simp only [putF]; kernel_rfl) rfl
    · intro K L us W hK0 hL hd hR
      have e5 : us 5 = .agg #[.int .i64 f.t, .int .i64 f.x, .int .i64 f.y, .int .i64 f.z, .int .i64 f.e, .int .i64 f.a, .int .i64 f.b, .int .i64 f.c, .int .i64 f.d, .int .i64 f.g] := hR.vals 5 (by decide) (all_on hd ⟨5, Ground.data⟩ (by simp) rfl)
      have hS := hR.at 0 (by decide) (.inl rfl) hL
      have hK := hid (fun v9 A9 W9 h1 (hS' : (fun kk vv WW => (match kk with | 0 => WW.heap[g]? = some (.cells #[.int .i64 m0, .int .i64 m1, .int .i64 m2, .int .i64 m3, .slice (some ⟨bk, 0, none⟩) n kc, .slice ra r rc, iv] 173) ∧ OwnF WW B (.slice ra r rc) Rl | 1 => WW.heap[g]? = some (.cells #[.int .i64 m0, .int .i64 m1, .int .i64 m2, .int .i64 m3, .slice (some ⟨bk, 0, none⟩) n kc, .slice ra r rc, iv] 173) ∧ OwnF WW B (.slice ra r rc) Rl ∧ (∃ q, vv 0 = .slice (some ⟨q, 0, none⟩) 1 1 ∧ WW.heap[q]? = some (.cells #[.int .i64 f.t, .int .i64 f.x, .int .i64 f.y, .int .i64 f.z, .int .i64 f.e, .int .i64 f.a, .int .i64 f.b, .int .i64 f.c, .int .i64 f.d, .int .i64 f.g] 55)) | 2 => WW.heap[g]? = some (.cells #[.int .i64 m0, .int .i64 m1, .int .i64 m2, .int .i64 m3, .slice (some ⟨bk, 0, none⟩) n kc, .slice ra r rc, iv] 173) ∧ OwnF WW B (vv 1) (Rl ++ [f]) ∧ (∀ b, Value.ownBlock (.slice (some ⟨bk, 0, none⟩) n kc) = some b → Value.ownBlock (vv 1) ≠ some b) | _ => WW.heap[g]? = some (.cells #[.int .i64 m0, .int .i64 m1, .int .i64 m2, .int .i64 m3, .slice (some ⟨bk, 0, none⟩) n kc, (vv 1), iv] 173) ∧ OwnF WW B (vv 1) (Rl ++ [f]) ∧ (∀ b, Value.ownBlock (.slice (some ⟨bk, 0, none⟩) n kc) = some b → Value.ownBlock (vv 1) ≠ some b)) ∧ Below B w WW ∧ V.heap.size ≤ WW.heap.size ∧ WW.heap[w.heap.size]? = some (.cells f.row.toArray 55) ∧ OwnF WW B (.slice (some ⟨bk, 0, none⟩) n kc) Kl ∧ OwnI2 WW B iv I) 1 (fun j => if j = 0 then v9 else selV [6, 7, 10] us j) W9) => hK0 v9 A9 W9 h1 (hR.next (by decide) 0 (by decide) (.inl rfl) hL hS' (fun h => absurd h (by decide)))); clear hK0
      obtain ⟨⟨hg4, ho4⟩, ⟨hB4, hz4, hx4, hr4, hi4⟩⟩ := hS
      have G4 := hid hg4
      have O4 := hid ho4
      clear hg4 ho4
      have B4 := hid hB4
      have X4 := hid hx4
      have R4 := hid hr4
      have I4 := hid hi4
      clear hB4 hx4 hr4 hi4
      clear hd
      simp only [putF]
      rw [hA, e5]
      go_frame
      go_wp2_with fail
      refine hK.out (.slice (some ⟨W.heap.size, 0, none⟩) 1 1) _ _ (by rw [hA]; simp only [putF]; rw [e5]; kernel_rfl) ?_
      exact ⟨⟨heap_still ((Below.refl W.heap.size W).alloc (Nat.le_refl _) (.cells #[.int .i64 f.t, .int .i64 f.x, .int .i64 f.y, .int .i64 f.z, .int .i64 f.e, .int .i64 f.a, .int .i64 f.b, .int .i64 f.c, .int .i64 f.d, .int .i64 f.g] 55)) G4.out, O4.out.grow ((Below.refl W.heap.size W).alloc (Nat.le_refl _) (.cells #[.int .i64 f.t, .int .i64 f.x, .int .i64 f.y, .int .i64 f.z, .int .i64 f.e, .int .i64 f.a, .int .i64 f.b, .int .i64 f.c, .int .i64 f.d, .int .i64 f.g] 55)), ⟨W.heap.size, rfl, heap_alloc_at _ _ _ rfl⟩⟩, B4.out.trans (((Below.refl W.heap.size W).alloc (Nat.le_refl _) (.cells #[.int .i64 f.t, .int .i64 f.x, .int .i64 f.y, .int .i64 f.z, .int .i64 f.e, .int .i64 f.a, .int .i64 f.b, .int .i64 f.c, .int .i64 f.d, .int .i64 f.g] 55)).mono (by have h1 := B4.out.size; have h2 := HLT.out; have h3 := HGB.out; omega)), by simp; omega, heap_still ((Below.refl W.heap.size W).alloc (Nat.le_refl _) (.cells #[.int .i64 f.t, .int .i64 f.x, .int .i64 f.y, .int .i64 f.z, .int .i64 f.e, .int .i64 f.a, .int .i64 f.b, .int .i64 f.c, .int .i64 f.d, .int .i64 f.g] 55)) X4.out, R4.out.grow ((Below.refl W.heap.size W).alloc (Nat.le_refl _) (.cells #[.int .i64 f.t, .int .i64 f.x, .int .i64 f.y, .int .i64 f.z, .int .i64 f.e, .int .i64 f.a, .int .i64 f.b, .int .i64 f.c, .int .i64 f.d, .int .i64 f.g] 55)), I4.out.grow ((Below.refl W.heap.size W).alloc (Nat.le_refl _) (.cells #[.int .i64 f.t, .int .i64 f.x, .int .i64 f.y, .int .i64 f.z, .int .i64 f.e, .int .i64 f.a, .int .i64 f.b, .int .i64 f.c, .int .i64 f.d, .int .i64 f.g] 55))⟩
    · intro K L us W hK0 hL hd hR
      have e4 : us 4 = .slice ra r rc := hR.vals 4 (by decide) (all_on hd ⟨4, Ground.data⟩ (by simp) rfl)
      have hS := hR.at 1 (by decide) (.inr ⟨by decide, all_on hd ⟨6, Ground.data⟩ (by simp) rfl⟩) hL
      have hK := hid (fun v9 A9 W9 h1 (hS' : (fun kk vv WW => (match kk with | 0 => WW.heap[g]? = some (.cells #[.int .i64 m0, .int .i64 m1, .int .i64 m2, .int .i64 m3, .slice (some ⟨bk, 0, none⟩) n kc, .slice ra r rc, iv] 173) ∧ OwnF WW B (.slice ra r rc) Rl | 1 => WW.heap[g]? = some (.cells #[.int .i64 m0, .int .i64 m1, .int .i64 m2, .int .i64 m3, .slice (some ⟨bk, 0, none⟩) n kc, .slice ra r rc, iv] 173) ∧ OwnF WW B (.slice ra r rc) Rl ∧ (∃ q, vv 0 = .slice (some ⟨q, 0, none⟩) 1 1 ∧ WW.heap[q]? = some (.cells #[.int .i64 f.t, .int .i64 f.x, .int .i64 f.y, .int .i64 f.z, .int .i64 f.e, .int .i64 f.a, .int .i64 f.b, .int .i64 f.c, .int .i64 f.d, .int .i64 f.g] 55)) | 2 => WW.heap[g]? = some (.cells #[.int .i64 m0, .int .i64 m1, .int .i64 m2, .int .i64 m3, .slice (some ⟨bk, 0, none⟩) n kc, .slice ra r rc, iv] 173) ∧ OwnF WW B (vv 1) (Rl ++ [f]) ∧ (∀ b, Value.ownBlock (.slice (some ⟨bk, 0, none⟩) n kc) = some b → Value.ownBlock (vv 1) ≠ some b) | _ => WW.heap[g]? = some (.cells #[.int .i64 m0, .int .i64 m1, .int .i64 m2, .int .i64 m3, .slice (some ⟨bk, 0, none⟩) n kc, (vv 1), iv] 173) ∧ OwnF WW B (vv 1) (Rl ++ [f]) ∧ (∀ b, Value.ownBlock (.slice (some ⟨bk, 0, none⟩) n kc) = some b → Value.ownBlock (vv 1) ≠ some b)) ∧ Below B w WW ∧ V.heap.size ≤ WW.heap.size ∧ WW.heap[w.heap.size]? = some (.cells f.row.toArray 55) ∧ OwnF WW B (.slice (some ⟨bk, 0, none⟩) n kc) Kl ∧ OwnI2 WW B iv I) 2 (fun j => if j = 1 then v9 else selV [6, 7, 10] us j) W9) => hK0 v9 A9 W9 h1 (hR.next (by decide) 1 (by decide) (.inr ⟨by decide, all_on hd ⟨6, Ground.data⟩ (by simp) rfl⟩) hL hS' (fun h => absurd h (by decide)))); clear hK0
      obtain ⟨⟨hg4, ho4, ⟨q, hq, hq4⟩⟩, ⟨hB4, hz4, hx4, hr4, hi4⟩⟩ := hS
      have e6 : us 6 = .slice (some ⟨q, 0, none⟩) 1 1 := hq
      have G4 := hid hg4
      have O4 := hid ho4
      have Q4 := hid hq4
      clear hg4 ho4 hq hq4
      have B4 := hid hB4
      have X4 := hid hx4
      have R4 := hid hr4
      have I4 := hid hi4
      clear hB4 hx4 hr4 hi4
      have HL1 := hid (show (Rl.map Fx.row).length + [f.row].length ≤ maxLen by rw [List.length_map, ← HNR.out, List.length_singleton]; unfold maxLen; omega)
      have HL2 := hid (show ((Rl.map Fx.row).length + [f.row].length) * 80 ≤ 140737488355328 by rw [List.length_map, ← HNR.out, List.length_singleton]; omega)
      have HL3 := hid (show B ≤ W.heap.size by have h1 := B4.out.size; have h2 := HLT.out; have h3 := HGB.out; omega)
      clear hd
      simp only [putF]
      rw [hA, e4, e6]
      go_frame
      go_wp2_with (first | (at_builtin; go_loud (refine wpList_append_rowsR rfl (.tmp 46) (.tmp 48) 106 rfl B 55 i0 _ 10 80 Try.underlying106 HI.out HZ0.out HZ1.out HZ2.out rfl (by decide) _ (Rl.map Fx.row) [f.row] rfl O4.out q 0 1 1 rfl rfl (rows_one (f := f) Q4.out) (rows_wide [f]) HL1.out HL2.out HL3.out ?_; intro v7 w7 ho1 ho2 ho3; have HO1 := hid ho1; have HO2 := hid ho2; have HO3 := hid ho3; clear ho1 ho2 ho3)))
      refine hK.out v7 _ _ (by rw [hA]; simp only [putF]; rw [e4, e6]; kernel_rfl) ?_
      have hb : ∀ k, (Value.ownBlock (.slice ra r rc)) ≠ some k → k < W.heap.size → w7.heap[k]? = W.heap[k]? := fun k hk hlt => HO2.out.block k hlt (fun e => hk e.symm)
      have hgl : ∀ {k : Nat} {x : Obj}, W.heap[k]? = some x → k < W.heap.size := fun h => (Array.getElem?_eq_some_iff.1 h).1
      refine ⟨⟨(hb g (own_not O4.out G4.out (by decide)) (hgl G4.out)).trans G4.out, by have h1 := HO1.out; unfold OwnF; rw [List.map_append]; exact h1, fun b hb hb2 => by have hb3 : Value.ownBlock v7 = some b := hb2; rcases HO3.out with e | e; (· exact HKR.out b hb (e ▸ hb3)); (· rw [e] at hb3; injection hb3 with hb3; subst hb3; have := own_blocks_lt R4.out hb; omega)⟩, below_grown B4.out HO2.out (fun k hk => OwnR.ownBlock O4.out k hk) HL3.out, by have h1 := HO2.out.size; omega, (hb _ HBX.out (hgl X4.out)).trans X4.out, R4.out.same (fun k e => hb k (fun e2 => HKR.out k e e2) (own_blocks_lt R4.out e)), I4.out.same (fun k e => hb k (fun e2 => own_apart O4.out I4.out (by decide) k e2 e) (own_blocks_lt I4.out e))⟩
    · intro K L us W hK0 hL hd hR
      have e0 : us 0 = .pointer (some ⟨g, 0, none⟩) := hR.vals 0 (by decide) (all_on hd ⟨0, Ground.data⟩ (by simp) rfl)
      have hK := hid (fun v9 A9 h1 (h3 : v9 = .pointer (some ⟨g, 0, none⟩)) => hK0 v9 A9 W h1 (hR.pure (by decide) h3)); clear hK0
      clear hd
      simp only [putF]
      rw [hA, e0]
      go_frame
      go_wp2_with fail
      exact hK.out _ _ (by rw [hA]; simp only [putF]; rw [e0]; kernel_rfl) rfl
    · intro K L us W hK0 hL hd hR
      have e8 : us 8 = .pointer (some ⟨g, 0, none⟩) := hR.vals 8 (by decide) (all_on hd ⟨8, Ground.data⟩ (by simp) rfl)
      have hK := hid (fun v9 A9 h1 (h3 : v9 = .pointer (some ⟨g, 5, none⟩)) => hK0 v9 A9 W h1 (hR.pure (by decide) h3)); clear hK0
      clear hd
      simp only [putF]
      rw [hA, e8]
      go_frame
      go_wp2_with fail
      exact hK.out _ _ (by rw [hA]; simp only [putF]; rw [e8]; kernel_rfl) rfl
    · intro K L us W hK0 hL hd hR
      have e9 : us 9 = .pointer (some ⟨g, 5, none⟩) := hR.vals 9 (by decide) (all_on hd ⟨9, Ground.data⟩ (by simp) rfl)
      have hS := hR.at 2 (by decide) (.inr ⟨by decide, all_on hd ⟨7, Ground.data⟩ (by simp) rfl⟩) hL
      have hK := hid (fun v9 A9 W9 h1 (hS' : (fun kk vv WW => (match kk with | 0 => WW.heap[g]? = some (.cells #[.int .i64 m0, .int .i64 m1, .int .i64 m2, .int .i64 m3, .slice (some ⟨bk, 0, none⟩) n kc, .slice ra r rc, iv] 173) ∧ OwnF WW B (.slice ra r rc) Rl | 1 => WW.heap[g]? = some (.cells #[.int .i64 m0, .int .i64 m1, .int .i64 m2, .int .i64 m3, .slice (some ⟨bk, 0, none⟩) n kc, .slice ra r rc, iv] 173) ∧ OwnF WW B (.slice ra r rc) Rl ∧ (∃ q, vv 0 = .slice (some ⟨q, 0, none⟩) 1 1 ∧ WW.heap[q]? = some (.cells #[.int .i64 f.t, .int .i64 f.x, .int .i64 f.y, .int .i64 f.z, .int .i64 f.e, .int .i64 f.a, .int .i64 f.b, .int .i64 f.c, .int .i64 f.d, .int .i64 f.g] 55)) | 2 => WW.heap[g]? = some (.cells #[.int .i64 m0, .int .i64 m1, .int .i64 m2, .int .i64 m3, .slice (some ⟨bk, 0, none⟩) n kc, .slice ra r rc, iv] 173) ∧ OwnF WW B (vv 1) (Rl ++ [f]) ∧ (∀ b, Value.ownBlock (.slice (some ⟨bk, 0, none⟩) n kc) = some b → Value.ownBlock (vv 1) ≠ some b) | _ => WW.heap[g]? = some (.cells #[.int .i64 m0, .int .i64 m1, .int .i64 m2, .int .i64 m3, .slice (some ⟨bk, 0, none⟩) n kc, (vv 1), iv] 173) ∧ OwnF WW B (vv 1) (Rl ++ [f]) ∧ (∀ b, Value.ownBlock (.slice (some ⟨bk, 0, none⟩) n kc) = some b → Value.ownBlock (vv 1) ≠ some b)) ∧ Below B w WW ∧ V.heap.size ≤ WW.heap.size ∧ WW.heap[w.heap.size]? = some (.cells f.row.toArray 55) ∧ OwnF WW B (.slice (some ⟨bk, 0, none⟩) n kc) Kl ∧ OwnI2 WW B iv I) 3 (fun j => if j = 2 then v9 else selV [6, 7, 10] us j) W9) => hK0 v9 A9 W9 h1 (hR.next (by decide) 2 (by decide) (.inr ⟨by decide, all_on hd ⟨7, Ground.data⟩ (by simp) rfl⟩) hL hS' (fun _ => by intro j hj; rw [List.mem_singleton.1 hj]; exact all_on hd ⟨4, Ground.phase⟩ (by simp) rfl))); clear hK0
      obtain ⟨⟨hg4, ho4, hap4⟩, ⟨hB4, hz4, hx4, hr4, hi4⟩⟩ := hS
      obtain ⟨v7, e7⟩ : ∃ v, us 7 = v := ⟨_, rfl⟩
      have ho5 : OwnF W B (us 7) (Rl ++ [f]) := ho4
      have hap5 : (∀ b, Value.ownBlock (.slice (some ⟨bk, 0, none⟩) n kc) = some b → Value.ownBlock (us 7) ≠ some b) := hap4
      rw [e7] at ho5 hap5
      obtain ⟨a9, c9, e99⟩ := OwnR.slice ho5
      subst e99
      have G4 := hid hg4
      have O5 := hid ho5
      have AP5 := hid hap5
      clear ho4 ho5 hg4 hap4 hap5
      have B4 := hid hB4
      have X4 := hid hx4
      have R4 := hid hr4
      have I4 := hid hi4
      clear hB4 hx4 hr4 hi4
      have z1 : W.frozen? ⟨g, 5, none⟩ = false := by have hh := G4.out; simp [World.frozen?, hh]
      have z0 : W.cell? ⟨g, 5, none⟩ = some (.slice ra r rc) := (cell_row (j := 5) G4.out).trans rfl
      generalize hl9 : ((Rl ++ [f]).map Fx.row).length = n9 at *
      have HL9 := hid hl9
      clear hl9
      clear hd
      simp only [putF]
      rw [hA, e9, e7]
      go_frame
      go_wp2_with fail
      refine hK.out undef _ _ (by rw [hA]; simp only [putF]; rw [e9, e7]; kernel_rfl) ?_
      have C9 := ClV.putR G4.out HGB.out R4.out I4.out O5.out AP5.out
      refine ⟨⟨?_, ?_, ?_⟩, below_set B4.out HGB.out _, by simp; omega, (setCell_other (fun e => by have h1 := HBXG.out; omega)).trans X4.out, C9.k, C9.i⟩
      · show _ = some (Obj.cells #[.int .i64 m0, .int .i64 m1, .int .i64 m2, .int .i64 m3, .slice (some ⟨bk, 0, none⟩) n kc, (us 7), iv] 173)
        rw [e7]
        exact C9.hg
      · show OwnF _ B (us 7) (Rl ++ [f])
        rw [e7]
        exact C9.r
      · show (∀ b, Value.ownBlock (.slice (some ⟨bk, 0, none⟩) n kc) = some b → Value.ownBlock (us 7) ≠ some b)
        rw [e7]
        exact AP5.out
  case htS =>
    intro L us W5 hall hR
    have hS := hR.last (fun i hi => match i, hi with | 0, _ => hall 6 (by decide) | 1, _ => hall 7 (by decide) | 2, _ => hall 10 (by decide))
    have e0 : us 0 = .pointer (some ⟨g, 0, none⟩) := hR.vals 0 (by decide) (hall 0 (by decide))
    have e1 : us 1 = .pointer (some ⟨g, 0, none⟩) := hR.vals 1 (by decide) (hall 1 (by decide))
    have e2 : us 2 = .pointer (some ⟨g, 0, none⟩) := hR.vals 2 (by decide) (hall 2 (by decide))
    have e3 : us 3 = .pointer (some ⟨g, 5, none⟩) := hR.vals 3 (by decide) (hall 3 (by decide))
    have e4 : us 4 = .slice ra r rc := hR.vals 4 (by decide) (hall 4 (by decide))
    have e5 : us 5 = .agg #[.int .i64 f.t, .int .i64 f.x, .int .i64 f.y, .int .i64 f.z, .int .i64 f.e, .int .i64 f.a, .int .i64 f.b, .int .i64 f.c, .int .i64 f.d, .int .i64 f.g] := hR.vals 5 (by decide) (hall 5 (by decide))
    have e8 : us 8 = .pointer (some ⟨g, 0, none⟩) := hR.vals 8 (by decide) (hall 8 (by decide))
    have e9 : us 9 = .pointer (some ⟨g, 5, none⟩) := hR.vals 9 (by decide) (hall 9 (by decide))
    clear hR hall
    obtain ⟨⟨hg5, ho5, hap5⟩, hB5, _, hx5, hr5, hi5⟩ := hS
    obtain ⟨v6, e6⟩ : ∃ v, us 6 = v := ⟨_, rfl⟩
    obtain ⟨v7, e7⟩ : ∃ v, us 7 = v := ⟨_, rfl⟩
    have hg6 : W5.heap[g]? = some (.cells #[.int .i64 m0, .int .i64 m1, .int .i64 m2, .int .i64 m3, .slice (some ⟨bk, 0, none⟩) n kc, (us 7), iv] 173) := hg5
    have ho6 : OwnF W5 B (us 7) (Rl ++ [f]) := ho5
    have hap6 : (∀ b, Value.ownBlock (.slice (some ⟨bk, 0, none⟩) n kc) = some b → Value.ownBlock (us 7) ≠ some b) := hap5
    rw [e7] at hg6 ho6 hap6
    have C5 := hid (show ClV W5 B g m0 m1 m2 m3 Kl (Rl ++ [f]) I (.slice (some ⟨bk, 0, none⟩) n kc) v7 iv from ⟨hg6, HGB.out, hr5, ho6, hi5, hap6⟩)
    have B5 := hid hB5
    have X5 := hid hx5
    clear hg5 ho5 hB5 hr5 hi5 hg6 ho6 hap5 hap6 hx5
    simp only [putF]
    rw [hA, e0, e1, e2, e3, e4, e5, e8, e9, e6, e7]
    go_frame
    clear hA e6 e7 e0 e1 e2 e3 e4 e5 e8 e9
    obtain ⟨a7, c7, h7⟩ := OwnR.slice C5.out.r
    obtain ⟨r1, hr1⟩ : ∃ r1, r1 = r + 1 := ⟨_, rfl⟩
    rw [show ((Rl ++ [f]).map Fx.row).length = r1 by rw [hr1, List.length_map, List.length_append, List.length_singleton, HNR.out]] at h7
    subst h7
    have HR1 := hid hr1
    have hr1b : r1 ≤ 100001 := by omega
    clear hr1
    have c57 : W5.cell? ⟨g, 5, none⟩ = some (.slice a7 r1 c7) := C5.out.c5
    have d7 : decide ((r1 : Int) - 3 < 0) = true := decide_eq_true (by have := HR1.out; omega)
    go_wp2_with fail
    have c57q := fun d os => cell_regrown c57 d os
    refine wp_region_quiet_below (by kernel_rfl) (by kernel_rfl) ?_
    repeat (first | go_big_quiet_step (fail) | quiet_step (fail))
    refine wpQuiet_nil ?_
    intro _ hw'
    obtain ⟨⟨dqV7, osV7⟩, hw2⟩ := hw'
    subst hw2
    have HQV7 := hid (below_regrown W5 dqV7 osV7)
    generalize Sort.grow (redrawn W5 dqV7) osV7 = V7 at HQV7 ⊢
    have hsV7 := HQV7.out.size
    go_wp2_with fail
    (first | (refine bodyPost_ret (results_none rfl _ _ _) rfl ?_) | go_end0)
    exact ⟨rfl, ⟨_, _, _, C5.out.still HQV7.out⟩, B5.out.trans (HQV7.out.mono (by have h1 := B5.out.size; have h2 := HLT.out; have h3 := HGB.out; omega))⟩
set_option maxRecDepth 100000 in
set_option maxHeartbeats 3200000 in
/-- a fix is put aside: the first two of the three are not near each other -/
theorem take_no1 (B g : Nat) (m0 m1 m2 m3 : Int) (Kl Rl : List Fx) (I : List (Int × Int)) (kv rv iv : Value) (f : Fx) (w : World) (h : ClV w B g m0 m1 m2 m3 Kl Rl I kv rv iv) (hn : I.length + Rl.length ≤ 100000) (hk : Kl.length ≤ 100000) (hf : f.ok = true) (hm : 0 ≤ m1 ∧ m1 ≤ 1000000) (hok : ∀ p ∈ Kl, p.ok = true) (h0 : 0 < Kl.length) (hkeep : keepG (nearB m1) Kl f = false) (xa xb xc : Fx) (k : Nat) (hk3 : Rl.length = k + 2) (hxa : (Rl ++ [f])[k]? = some xa) (hxb : (Rl ++ [f])[k + 1]? = some xb) (hxc : (Rl ++ [f])[k + 2]? = some xc) (hokr : ∀ p ∈ Rl, p.ok = true) (hn1 : nearB m1 xa xb = false) :
    Calls Try.prog 121 #[.pointer (some ⟨g, 0, none⟩), .agg f.row.toArray] w fun r w' => r = .returned (.tuple #[]) ∧ Cl w' B g m0 m1 m2 m3 (Kl, Rl ++ [f], I) ∧ Below B w w' := by
  have HLT := hid h.lt
  have HGB := hid h.hB
  have HKR := hid h.kr
  obtain ⟨ka, kc, hkv⟩ := OwnR.slice h.k
  rw [List.length_map] at hkv
  subst hkv
  obtain ⟨ra, rc, hrv⟩ := OwnR.slice h.r
  rw [List.length_map] at hrv
  subst hrv
  have H := hid h
  clear h
  obtain ⟨i0, hi, hz0, hz1, hz2⟩ := info_parts info55f
  have HI := hid hi
  have HZ0 := hid hz0
  have HZ1 := hid hz1
  have HZ2 := hid hz2
  clear hi hz0 hz1 hz2
  obtain ⟨n, hnn⟩ : ∃ n, n = Kl.length := ⟨_, rfl⟩
  obtain ⟨r, hrr⟩ : ∃ r, r = Rl.length := ⟨_, rfl⟩
  rw [← hnn] at H HKR hk
  rw [← hrr] at H HKR
  (try rw [← hrr] at hn)
  have HNA := hid hnn
  have HNR := hid hrr
  clear hnn hrr
  go_enter Try.func121, Try.ntmps121
  go_upto_region 1 with fail
  refine gen_world (fun W0 hW0 => ?_)
  have KB := hid (show W0.heap[w.heap.size]? = some (.cells f.row.toArray 55) by rw [hW0]; exact heap_alloc_at _ _ _ rfl)
  have HB0 := hid (show Below w.heap.size w W0 by rw [hW0]; exact (Below.refl _ _).alloc (Nat.le_refl _) _)
  clear hW0
  have HC := hid (H.out.still HB0.out)
  have HBB := hid (show Below B w W0 from HB0.out.mono (by have h1 := HLT.out; have h2 := HGB.out; omega))
  have hbx : w.heap.size < W0.heap.size := (Array.getElem?_eq_some_iff.1 KB.out).1
  have c4 : W0.cell? ⟨g, 4, none⟩ = some (.slice ka n kc) := HC.out.c4
  rw [← HNA.out] at h0
  have d0 : ((n : Int) == 0) = false := by simp; omega
  have hn0 : 0 < n := by omega
  have d1 : decide ((0 : Int) < (n : Int)) = true := decide_eq_true (by omega)
  obtain ⟨x, hx⟩ : ∃ x, Kl[n - 1]? = some x := ⟨_, List.getElem?_eq_getElem (by rw [← HNA.out]; omega)⟩
  have hnear : nearB m1 x f = false := by
    unfold keepG at hkeep
    rw [List.getLast?_eq_getElem?, ← HNA.out, hx] at hkeep
    exact hkeep
  have hxo := hok x (List.mem_of_getElem? hx)
  obtain ⟨bk, hka, hrow, hbl⟩ := own_at HC.out.k hx
  subst hka
  have hc := row_of hrow hx ((n - 1) * 10) rfl
  have HNQ := hid (show ∀ W, Calls Try.prog 92 #[.agg #[.int .i64 x.t, .int .i64 x.x, .int .i64 x.y, .int .i64 x.z, .int .i64 x.e, .int .i64 x.a, .int .i64 x.b, .int .i64 x.c, .int .i64 x.d, .int .i64 x.g], .agg #[.int .i64 f.t, .int .i64 f.x, .int .i64 f.y, .int .i64 f.z, .int .i64 f.e, .int .i64 f.a, .int .i64 f.b, .int .i64 f.c, .int .i64 f.d, .int .i64 f.g], .agg #[.int .i64 m0, .int .i64 m1, .int .i64 m2, .int .i64 m3]] W fun r w' => r = .returned (.bool false) ∧ Below W.heap.size W w' from fun W => hnear ▸ nearX_any x f m0 m1 m2 m3 W hxo hf hm)
  have cm0 := fun d os => cell_regrown HC.out.c0 d os
  have cm1 := fun d os => cell_regrown HC.out.c1 d os
  have cm2 := fun d os => cell_regrown HC.out.c2 d os
  have cm3 := fun d os => cell_regrown HC.out.c3 d os
  have cm4 := fun d os => cell_regrown HC.out.c4 d os
  have p0 := fun d os => cell_regrown (w := W0) (a := ⟨bk, (n - 1) * 10, none⟩) (v := .int .i64 x.t) (hc 0 (by decide)) d os
  have p1 := fun d os => cell_regrown (w := W0) (a := ⟨bk, (n - 1) * 10 + 1, none⟩) (v := .int .i64 x.x) (hc 1 (by decide)) d os
  have p2 := fun d os => cell_regrown (w := W0) (a := ⟨bk, (n - 1) * 10 + 2, none⟩) (v := .int .i64 x.y) (hc 2 (by decide)) d os
  have p3 := fun d os => cell_regrown (w := W0) (a := ⟨bk, (n - 1) * 10 + 3, none⟩) (v := .int .i64 x.z) (hc 3 (by decide)) d os
  have p4 := fun d os => cell_regrown (w := W0) (a := ⟨bk, (n - 1) * 10 + 4, none⟩) (v := .int .i64 x.e) (hc 4 (by decide)) d os
  have p5 := fun d os => cell_regrown (w := W0) (a := ⟨bk, (n - 1) * 10 + 5, none⟩) (v := .int .i64 x.a) (hc 5 (by decide)) d os
  have p6 := fun d os => cell_regrown (w := W0) (a := ⟨bk, (n - 1) * 10 + 6, none⟩) (v := .int .i64 x.b) (hc 6 (by decide)) d os
  have p7 := fun d os => cell_regrown (w := W0) (a := ⟨bk, (n - 1) * 10 + 7, none⟩) (v := .int .i64 x.c) (hc 7 (by decide)) d os
  have p8 := fun d os => cell_regrown (w := W0) (a := ⟨bk, (n - 1) * 10 + 8, none⟩) (v := .int .i64 x.d) (hc 8 (by decide)) d os
  have p9 := fun d os => cell_regrown (w := W0) (a := ⟨bk, (n - 1) * 10 + 9, none⟩) (v := .int .i64 x.g) (hc 9 (by decide)) d os
  have q0 := fun d os => cell_regrown (w := W0) (a := ⟨w.heap.size, 0, none⟩) (v := .int .i64 f.t) ((cell_row (j := 0) KB.out).trans rfl) d os
  have q1 := fun d os => cell_regrown (w := W0) (a := ⟨w.heap.size, 1, none⟩) (v := .int .i64 f.x) ((cell_row (j := 1) KB.out).trans rfl) d os
  have q2 := fun d os => cell_regrown (w := W0) (a := ⟨w.heap.size, 2, none⟩) (v := .int .i64 f.y) ((cell_row (j := 2) KB.out).trans rfl) d os
  have q3 := fun d os => cell_regrown (w := W0) (a := ⟨w.heap.size, 3, none⟩) (v := .int .i64 f.z) ((cell_row (j := 3) KB.out).trans rfl) d os
  have q4 := fun d os => cell_regrown (w := W0) (a := ⟨w.heap.size, 4, none⟩) (v := .int .i64 f.e) ((cell_row (j := 4) KB.out).trans rfl) d os
  have q5 := fun d os => cell_regrown (w := W0) (a := ⟨w.heap.size, 5, none⟩) (v := .int .i64 f.a) ((cell_row (j := 5) KB.out).trans rfl) d os
  have q6 := fun d os => cell_regrown (w := W0) (a := ⟨w.heap.size, 6, none⟩) (v := .int .i64 f.b) ((cell_row (j := 6) KB.out).trans rfl) d os
  have q7 := fun d os => cell_regrown (w := W0) (a := ⟨w.heap.size, 7, none⟩) (v := .int .i64 f.c) ((cell_row (j := 7) KB.out).trans rfl) d os
  have q8 := fun d os => cell_regrown (w := W0) (a := ⟨w.heap.size, 8, none⟩) (v := .int .i64 f.d) ((cell_row (j := 8) KB.out).trans rfl) d os
  have q9 := fun d os => cell_regrown (w := W0) (a := ⟨w.heap.size, 9, none⟩) (v := .int .i64 f.g) ((cell_row (j := 9) KB.out).trans rfl) d os
  clear hc hrow hx hnear hxo hkeep
  go_wp2_with fail
  refine wp_region_quiet_below (by kernel_rfl) (by kernel_rfl) ?_
  repeat (first | go_big_quiet_step ((go_at_call 92; with_reducible exact Calls.regrown_of (HNQ.out _))) | quiet_step ((go_at_call 92; with_reducible exact Calls.regrown_of (HNQ.out _))))
  refine wpQuiet_nil ?_
  intro _ hw'
  obtain ⟨⟨dqV, osV⟩, hw2⟩ := hw'
  subst hw2
  have HQV := hid (below_regrown W0 dqV osV)
  generalize Sort.grow (redrawn W0 dqV) osV = V at HQV ⊢
  have hsV := HQV.out.size
  clear cm0 cm1 cm2 cm3 cm4 p0 p1 p2 p3 p4 p5 p6 p7 p8 p9 q0 q1 q2 q3 q4 q5 q6 q7 q8 q9
  have HBV := hid (HBB.out.trans (HQV.out.mono (by have h1 := HLT.out; have h2 := HGB.out; have h3 := HB0.out.size; omega)))
  have HCV := hid (HC.out.still HQV.out)
  have KBV := hid (heap_still HQV.out KB.out)
  have hbv : w.heap.size < V.heap.size := (Array.getElem?_eq_some_iff.1 KBV.out).1
  have hbw := HB0.out.size
  have HBXL := hid (fun k (hk : (Value.slice (some ⟨bk, 0, none⟩) n kc).ownBlock = some k) => show k < w.heap.size from own_blocks_lt H.out.k hk)
  have HBXR := hid (fun k (hk : (Value.slice ra r rc).ownBlock = some k) => show k < w.heap.size from own_blocks_lt H.out.r hk)
  have HBXG := hid (show g < w.heap.size from HLT.out)
  clear HQV KB HC
  have KB := hid KBV.out
  have HBX := hid (show (Value.slice ra r rc).ownBlock ≠ some w.heap.size from fun e => by have := HBXR.out _ e; omega)
  clear KBV HBXL HBXR
  go_wp2_with fail
  refine gen_act (fun A0 hA => ?_)
  refine wp_region_by (by kernel_rfl) (by kernel_rfl) [some 42, some 43, some 44, some 45, some 46, some 47, some 48, some 49, some 50, some 51, none] rfl (by decide) (StR (fun j => ([.pointer (some ⟨g, 0, none⟩), .pointer (some ⟨g, 0, none⟩), .pointer (some ⟨g, 0, none⟩), .pointer (some ⟨g, 5, none⟩), .slice ra r rc, .agg #[.int .i64 f.t, .int .i64 f.x, .int .i64 f.y, .int .i64 f.z, .int .i64 f.e, .int .i64 f.a, .int .i64 f.b, .int .i64 f.c, .int .i64 f.d, .int .i64 f.g], undef, undef, .pointer (some ⟨g, 0, none⟩), .pointer (some ⟨g, 5, none⟩), undef] : List Value).getD j undef) [6, 7, 10] [4] (fun kk vv WW => (match kk with | 0 => WW.heap[g]? = some (.cells #[.int .i64 m0, .int .i64 m1, .int .i64 m2, .int .i64 m3, .slice (some ⟨bk, 0, none⟩) n kc, .slice ra r rc, iv] 173) ∧ OwnF WW B (.slice ra r rc) Rl | 1 => WW.heap[g]? = some (.cells #[.int .i64 m0, .int .i64 m1, .int .i64 m2, .int .i64 m3, .slice (some ⟨bk, 0, none⟩) n kc, .slice ra r rc, iv] 173) ∧ OwnF WW B (.slice ra r rc) Rl ∧ (∃ q, vv 0 = .slice (some ⟨q, 0, none⟩) 1 1 ∧ WW.heap[q]? = some (.cells #[.int .i64 f.t, .int .i64 f.x, .int .i64 f.y, .int .i64 f.z, .int .i64 f.e, .int .i64 f.a, .int .i64 f.b, .int .i64 f.c, .int .i64 f.d, .int .i64 f.g] 55)) | 2 => WW.heap[g]? = some (.cells #[.int .i64 m0, .int .i64 m1, .int .i64 m2, .int .i64 m3, .slice (some ⟨bk, 0, none⟩) n kc, .slice ra r rc, iv] 173) ∧ OwnF WW B (vv 1) (Rl ++ [f]) ∧ (∀ b, Value.ownBlock (.slice (some ⟨bk, 0, none⟩) n kc) = some b → Value.ownBlock (vv 1) ≠ some b) | _ => WW.heap[g]? = some (.cells #[.int .i64 m0, .int .i64 m1, .int .i64 m2, .int .i64 m3, .slice (some ⟨bk, 0, none⟩) n kc, (vv 1), iv] 173) ∧ OwnF WW B (vv 1) (Rl ++ [f]) ∧ (∀ b, Value.ownBlock (.slice (some ⟨bk, 0, none⟩) n kc) = some b → Value.ownBlock (vv 1) ≠ some b)) ∧ Below B w WW ∧ V.heap.size ≤ WW.heap.size ∧ WW.heap[w.heap.size]? = some (.cells f.row.toArray 55) ∧ OwnF WW B (.slice (some ⟨bk, 0, none⟩) n kc) Kl ∧ OwnI2 WW B iv I)) (selfF A0 _) (putF_self A0 _)
    (StR.start ⟨⟨(HCV.out.still (Below.refl _ _).drew).hg, (HCV.out.still (Below.refl _ _).drew).r⟩, HBV.out.drew, Nat.le_refl _, heap_still (Below.refl _ _).drew KB.out, (HCV.out.still (Below.refl _ _).drew).k, (HCV.out.still (Below.refl _ _).drew).i⟩ (fun _ => rfl)) ?hsS ?htS
  case hsS =>
    refine ⟨?_, ?_, ?_, ?_, ?_, ?_, ?_, ?_, ?_, ?_, ?_, trivial⟩
    · intro K L us W hK0 hL hd hR
      have hK := hid (fun v9 A9 h1 (h3 : v9 = .pointer (some ⟨g, 0, none⟩)) => hK0 v9 A9 W h1 (hR.pure (by decide) h3)); clear hK0
      clear hd
      simp only [putF]
      rw [hA]
      go_frame
      go_wp2_with fail
      exact hK.out _ _ (by rw [hA]; simp only [putF]; kernel_rfl) rfl
    · intro K L us W hK0 hL hd hR
      have hK := hid (fun v9 A9 h1 (h3 : v9 = .pointer (some ⟨g, 0, none⟩)) => hK0 v9 A9 W h1 (hR.pure (by decide) h3)); clear hK0
      clear hd
      simp only [putF]
      rw [hA]
      go_frame
      go_wp2_with fail
      exact hK.out _ _ (by rw [hA]; simp only [putF]; kernel_rfl) rfl
    · intro K L us W hK0 hL hd hR
      have e1 : us 1 = .pointer (some ⟨g, 0, none⟩) := hR.vals 1 (by decide) (all_on hd ⟨1, Ground.data⟩ (by simp) rfl)
      have hK := hid (fun v9 A9 h1 (h3 : v9 = .pointer (some ⟨g, 0, none⟩)) => hK0 v9 A9 W h1 (hR.pure (by decide) h3)); clear hK0
      clear hd
      simp only [putF]
      rw [hA, e1]
      go_frame
      go_wp2_with fail
      exact hK.out _ _ (by rw [hA]; simp only [putF]; rw [e1]; kernel_rfl) rfl
    · intro K L us W hK0 hL hd hR
      have e2 : us 2 = .pointer (some ⟨g, 0, none⟩) := hR.vals 2 (by decide) (all_on hd ⟨2, Ground.data⟩ (by simp) rfl)
      have hK := hid (fun v9 A9 h1 (h3 : v9 = .pointer (some ⟨g, 5, none⟩)) => hK0 v9 A9 W h1 (hR.pure (by decide) h3)); clear hK0
      clear hd
      simp only [putF]
      rw [hA, e2]
      go_frame
      go_wp2_with fail
      exact hK.out _ _ (by rw [hA]; simp only [putF]; rw [e2]; kernel_rfl) rfl
    · intro K L us W hK0 hL hd hR
      have e3 : us 3 = .pointer (some ⟨g, 5, none⟩) := hR.vals 3 (by decide) (all_on hd ⟨3, Ground.data⟩ (by simp) rfl)
      have hK := hid (fun v9 A9 h1 (h3 : v9 = .slice ra r rc) => hK0 v9 A9 W h1 (hR.pure (by decide) h3)); clear hK0
      have c0 : W.cell? ⟨g, 5, none⟩ = some (.slice ra r rc) := by obtain ⟨k9, hk9, hS9⟩ := hR.early (j := 4) (by decide) hL (by decide); match k9, hk9, hS9 with | 0, _, hS9 => exact (cell_row (j := 5) hS9.1.1).trans rfl | 1, _, hS9 => exact (cell_row (j := 5) hS9.1.1).trans rfl | 2, _, hS9 => exact (cell_row (j := 5) hS9.1.1).trans rfl
      clear hd
      simp only [putF]
      rw [hA, e3]
      go_frame
      go_wp2_with fail
      exact hK.out _ _ (by rw [hA]; simp only [putF]; rw [e3]; kernel_rfl) rfl
    · intro K L us W hK0 hL hd hR
      have hK := hid (fun v9 A9 h1 (h3 : v9 = .agg #[.int .i64 f.t, .int .i64 f.x, .int .i64 f.y, .int .i64 f.z, .int .i64 f.e, .int .i64 f.a, .int .i64 f.b, .int .i64 f.c, .int .i64 f.d, .int .i64 f.g]) => hK0 v9 A9 W h1 (hR.pure (by decide) h3)); clear hK0
      have hx9 : W.heap[w.heap.size]? = some (.cells f.row.toArray 55) := by obtain ⟨_, _, _, hSq⟩ := hR.st; exact hSq.2.2.2.1
      clear hd
      simp only [putF]
      rw [hA]
      go_frame
      go_wp2_with (refine wpList_load_at rfl 55 (.tmp 3) rfl rfl hx9 Try.underlying55 rfl size55f (row_arr f) ?_)
      exact hK.out _ _ (by rw [hA]; simp only [putF]; kernel_rfl) rfl
    · intro K L us W hK0 hL hd hR
      have e5 : us 5 = .agg #[.int .i64 f.t, .int .i64 f.x, .int .i64 f.y, .int .i64 f.z, .int .i64 f.e, .int .i64 f.a, .int .i64 f.b, .int .i64 f.c, .int .i64 f.d, .int .i64 f.g] := hR.vals 5 (by decide) (all_on hd ⟨5, Ground.data⟩ (by simp) rfl)
      have hS := hR.at 0 (by decide) (.inl rfl) hL
      have hK := hid (fun v9 A9 W9 h1 (hS' : (fun kk vv WW => (match kk with | 0 => WW.heap[g]? = some (.cells #[.int .i64 m0, .int .i64 m1, .int .i64 m2, .int .i64 m3, .slice (some ⟨bk, 0, none⟩) n kc, .slice ra r rc, iv] 173) ∧ OwnF WW B (.slice ra r rc) Rl | 1 => WW.heap[g]? = some (.cells #[.int .i64 m0, .int .i64 m1, .int .i64 m2, .int .i64 m3, .slice (some ⟨bk, 0, none⟩) n kc, .slice ra r rc, iv] 173) ∧ OwnF WW B (.slice ra r rc) Rl ∧ (∃ q, vv 0 = .slice (some ⟨q, 0, none⟩) 1 1 ∧ WW.heap[q]? = some (.cells #[.int .i64 f.t, .int .i64 f.x, .int .i64 f.y, .int .i64 f.z, .int .i64 f.e, .int .i64 f.a, .int .i64 f.b, .int .i64 f.c, .int .i64 f.d, .int .i64 f.g] 55)) | 2 => WW.heap[g]? = some (.cells #[.int .i64 m0, .int .i64 m1, .int .i64 m2, .int .i64 m3, .slice (some ⟨bk, 0, none⟩) n kc, .slice ra r rc, iv] 173) ∧ OwnF WW B (vv 1) (Rl ++ [f]) ∧ (∀ b, Value.ownBlock (.slice (some ⟨bk, 0, none⟩) n kc) = some b → Value.ownBlock (vv 1) ≠ some b) | _ => WW.heap[g]? = some (.cells #[.int .i64 m0, .int .i64 m1, .int .i64 m2, .int .i64 m3, .slice (some ⟨bk, 0, none⟩) n kc, (vv 1), iv] 173) ∧ OwnF WW B (vv 1) (Rl ++ [f]) ∧ (∀ b, Value.ownBlock (.slice (some ⟨bk, 0, none⟩) n kc) = some b → Value.ownBlock (vv 1) ≠ some b)) ∧ Below B w WW ∧ V.heap.size ≤ WW.heap.size ∧ WW.heap[w.heap.size]? = some (.cells f.row.toArray 55) ∧ OwnF WW B (.slice (some ⟨bk, 0, none⟩) n kc) Kl ∧ OwnI2 WW B iv I) 1 (fun j => if j = 0 then v9 else selV [6, 7, 10] us j) W9) => hK0 v9 A9 W9 h1 (hR.next (by decide) 0 (by decide) (.inl rfl) hL hS' (fun h => absurd h (by decide)))); clear hK0
      obtain ⟨⟨hg4, ho4⟩, ⟨hB4, hz4, hx4, hr4, hi4⟩⟩ := hS
      have G4 := hid hg4
      have O4 := hid ho4
      clear hg4 ho4
      have B4 := hid hB4
      have X4 := hid hx4
      have R4 := hid hr4
      have I4 := hid hi4
      clear hB4 hx4 hr4 hi4
      clear hd
      simp only [putF]
      rw [hA, e5]
      go_frame
      go_wp2_with fail
      refine hK.out (.slice (some ⟨W.heap.size, 0, none⟩) 1 1) _ _ (by rw [hA]; simp only [putF]; rw [e5]; kernel_rfl) ?_
      exact ⟨⟨heap_still ((Below.refl W.heap.size W).alloc (Nat.le_refl _) (.cells #[.int .i64 f.t, .int .i64 f.x, .int .i64 f.y, .int .i64 f.z, .int .i64 f.e, .int .i64 f.a, .int .i64 f.b, .int .i64 f.c, .int .i64 f.d, .int .i64 f.g] 55)) G4.out, O4.out.grow ((Below.refl W.heap.size W).alloc (Nat.le_refl _) (.cells #[.int .i64 f.t, .int .i64 f.x, .int .i64 f.y, .int .i64 f.z, .int .i64 f.e, .int .i64 f.a, .int .i64 f.b, .int .i64 f.c, .int .i64 f.d, .int .i64 f.g] 55)), ⟨W.heap.size, rfl, heap_alloc_at _ _ _ rfl⟩⟩, B4.out.trans (((Below.refl W.heap.size W).alloc (Nat.le_refl _) (.cells #[.int .i64 f.t, .int .i64 f.x, .int .i64 f.y, .int .i64 f.z, .int .i64 f.e, .int .i64 f.a, .int .i64 f.b, .int .i64 f.c, .int .i64 f.d, .int .i64 f.g] 55)).mono (by have h1 := B4.out.size; have h2 := HLT.out; have h3 := HGB.out; omega)), by simp; omega, heap_still ((Below.refl W.heap.size W).alloc (Nat.le_refl _) (.cells #[.int .i64 f.t, .int .i64 f.x, .int .i64 f.y, .int .i64 f.z, .int .i64 f.e, .int .i64 f.a, .int .i64 f.b, .int .i64 f.c, .int .i64 f.d, .int .i64 f.g] 55)) X4.out, R4.out.grow ((Below.refl W.heap.size W).alloc (Nat.le_refl _) (.cells #[.int .i64 f.t, .int .i64 f.x, .int .i64 f.y, .int .i64 f.z, .int .i64 f.e, .int .i64 f.a, .int .i64 f.b, .int .i64 f.c, .int .i64 f.d, .int .i64 f.g] 55)), I4.out.grow ((Below.refl W.heap.size W).alloc (Nat.le_refl _) (.cells #[.int .i64 f.t, .int .i64 f.x, .int .i64 f.y, .int .i64 f.z, .int .i64 f.e, .int .i64 f.a, .int .i64 f.b, .int .i64 f.c, .int .i64 f.d, .int .i64 f.g] 55))⟩
    · intro K L us W hK0 hL hd hR
      have e4 : us 4 = .slice ra r rc := hR.vals 4 (by decide) (all_on hd ⟨4, Ground.data⟩ (by simp) rfl)
      have hS := hR.at 1 (by decide) (.inr ⟨by decide, all_on hd ⟨6, Ground.data⟩ (by simp) rfl⟩) hL
      have hK := hid (fun v9 A9 W9 h1 (hS' : (fun kk vv WW => (match kk with | 0 => WW.heap[g]? = some (.cells #[.int .i64 m0, .int .i64 m1, .int .i64 m2, .int .i64 m3, .slice (some ⟨bk, 0, none⟩) n kc, .slice ra r rc, iv] 173) ∧ OwnF WW B (.slice ra r rc) Rl | 1 => WW.heap[g]? = some (.cells #[.int .i64 m0, .int .i64 m1, .int .i64 m2, .int .i64 m3, .slice (some ⟨bk, 0, none⟩) n kc, .slice ra r rc, iv] 173) ∧ OwnF WW B (.slice ra r rc) Rl ∧ (∃ q, vv 0 = .slice (some ⟨q, 0, none⟩) 1 1 ∧ WW.heap[q]? = some (.cells #[.int .i64 f.t, .int .i64 f.x, .int .i64 f.y, .int .i64 f.z, .int .i64 f.e, .int .i64 f.a, .int .i64 f.b, .int .i64 f.c, .int .i64 f.d, .int .i64 f.g] 55)) | 2 => WW.heap[g]? = some (.cells #[.int .i64 m0, .int .i64 m1, .int .i64 m2, .int .i64 m3, .slice (some ⟨bk, 0, none⟩) n kc, .slice ra r rc, iv] 173) ∧ OwnF WW B (vv 1) (Rl ++ [f]) ∧ (∀ b, Value.ownBlock (.slice (some ⟨bk, 0, none⟩) n kc) = some b → Value.ownBlock (vv 1) ≠ some b) | _ => WW.heap[g]? = some (.cells #[.int .i64 m0, .int .i64 m1, .int .i64 m2, .int .i64 m3, .slice (some ⟨bk, 0, none⟩) n kc, (vv 1), iv] 173) ∧ OwnF WW B (vv 1) (Rl ++ [f]) ∧ (∀ b, Value.ownBlock (.slice (some ⟨bk, 0, none⟩) n kc) = some b → Value.ownBlock (vv 1) ≠ some b)) ∧ Below B w WW ∧ V.heap.size ≤ WW.heap.size ∧ WW.heap[w.heap.size]? = some (.cells f.row.toArray 55) ∧ OwnF WW B (.slice (some ⟨bk, 0, none⟩) n kc) Kl ∧ OwnI2 WW B iv I) 2 (fun j => if j = 1 then v9 else selV [6, 7, 10] us j) W9) => hK0 v9 A9 W9 h1 (hR.next (by decide) 1 (by decide) (.inr ⟨by decide, all_on hd ⟨6, Ground.data⟩ (by simp) rfl⟩) hL hS' (fun h => absurd h (by decide)))); clear hK0
      obtain ⟨⟨hg4, ho4, ⟨q, hq, hq4⟩⟩, ⟨hB4, hz4, hx4, hr4, hi4⟩⟩ := hS
      have e6 : us 6 = .slice (some ⟨q, 0, none⟩) 1 1 := hq
      have G4 := hid hg4
      have O4 := hid ho4
      have Q4 := hid hq4
      clear hg4 ho4 hq hq4
      have B4 := hid hB4
      have X4 := hid hx4
      have R4 := hid hr4
      have I4 := hid hi4
      clear hB4 hx4 hr4 hi4
      have HL1 := hid (show (Rl.map Fx.row).length + [f.row].length ≤ maxLen by rw [List.length_map, ← HNR.out, List.length_singleton]; unfold maxLen; omega)
      have HL2 := hid (show ((Rl.map Fx.row).length + [f.row].length) * 80 ≤ 140737488355328 by rw [List.length_map, ← HNR.out, List.length_singleton]; omega)
      have HL3 := hid (show B ≤ W.heap.size by have h1 := B4.out.size; have h2 := HLT.out; have h3 := HGB.out; omega)
      clear hd
      simp only [putF]
      rw [hA, e4, e6]
      go_frame
      go_wp2_with (first | (at_builtin; go_loud (refine wpList_append_rowsR rfl (.tmp 46) (.tmp 48) 106 rfl B 55 i0 _ 10 80 Try.underlying106 HI.out HZ0.out HZ1.out HZ2.out rfl (by decide) _ (Rl.map Fx.row) [f.row] rfl O4.out q 0 1 1 rfl rfl (rows_one (f := f) Q4.out) (rows_wide [f]) HL1.out HL2.out HL3.out ?_; intro v7 w7 ho1 ho2 ho3; have HO1 := hid ho1; have HO2 := hid ho2; have HO3 := hid ho3; clear ho1 ho2 ho3)))
      refine hK.out v7 _ _ (by rw [hA]; simp only [putF]; rw [e4, e6]; kernel_rfl) ?_
      have hb : ∀ k, (Value.ownBlock (.slice ra r rc)) ≠ some k → k < W.heap.size → w7.heap[k]? = W.heap[k]? := fun k hk hlt => HO2.out.block k hlt (fun e => hk e.symm)
      have hgl : ∀ {k : Nat} {x : Obj}, W.heap[k]? = some x → k < W.heap.size := fun h => (Array.getElem?_eq_some_iff.1 h).1
      refine ⟨⟨(hb g (own_not O4.out G4.out (by decide)) (hgl G4.out)).trans G4.out, by have h1 := HO1.out; unfold OwnF; rw [List.map_append]; exact h1, fun b hb hb2 => by have hb3 : Value.ownBlock v7 = some b := hb2; rcases HO3.out with e | e; (· exact HKR.out b hb (e ▸ hb3)); (· rw [e] at hb3; injection hb3 with hb3; subst hb3; have := own_blocks_lt R4.out hb; omega)⟩, below_grown B4.out HO2.out (fun k hk => OwnR.ownBlock O4.out k hk) HL3.out, by have h1 := HO2.out.size; omega, (hb _ HBX.out (hgl X4.out)).trans X4.out, R4.out.same (fun k e => hb k (fun e2 => HKR.out k e e2) (own_blocks_lt R4.out e)), I4.out.same (fun k e => hb k (fun e2 => own_apart O4.out I4.out (by decide) k e2 e) (own_blocks_lt I4.out e))⟩
    · intro K L us W hK0 hL hd hR
      have e0 : us 0 = .pointer (some ⟨g, 0, none⟩) := hR.vals 0 (by decide) (all_on hd ⟨0, Ground.data⟩ (by simp) rfl)
      have hK := hid (fun v9 A9 h1 (h3 : v9 = .pointer (some ⟨g, 0, none⟩)) => hK0 v9 A9 W h1 (hR.pure (by decide) h3)); clear hK0
      clear hd
      simp only [putF]
      rw [hA, e0]
      go_frame
      go_wp2_with fail
      exact hK.out _ _ (by rw [hA]; simp only [putF]; rw [e0]; kernel_rfl) rfl
    · intro K L us W hK0 hL hd hR
      have e8 : us 8 = .pointer (some ⟨g, 0, none⟩) := hR.vals 8 (by decide) (all_on hd ⟨8, Ground.data⟩ (by simp) rfl)
      have hK := hid (fun v9 A9 h1 (h3 : v9 = .pointer (some ⟨g, 5, none⟩)) => hK0 v9 A9 W h1 (hR.pure (by decide) h3)); clear hK0
      clear hd
      simp only [putF]
      rw [hA, e8]
      go_frame
      go_wp2_with fail
      exact hK.out _ _ (by rw [hA]; simp only [putF]; rw [e8]; kernel_rfl) rfl
    · intro K L us W hK0 hL hd hR
      have e9 : us 9 = .pointer (some ⟨g, 5, none⟩) := hR.vals 9 (by decide) (all_on hd ⟨9, Ground.data⟩ (by simp) rfl)
      have hS := hR.at 2 (by decide) (.inr ⟨by decide, all_on hd ⟨7, Ground.data⟩ (by simp) rfl⟩) hL
      have hK := hid (fun v9 A9 W9 h1 (hS' : (fun kk vv WW => (match kk with | 0 => WW.heap[g]? = some (.cells #[.int .i64 m0, .int .i64 m1, .int .i64 m2, .int .i64 m3, .slice (some ⟨bk, 0, none⟩) n kc, .slice ra r rc, iv] 173) ∧ OwnF WW B (.slice ra r rc) Rl | 1 => WW.heap[g]? = some (.cells #[.int .i64 m0, .int .i64 m1, .int .i64 m2, .int .i64 m3, .slice (some ⟨bk, 0, none⟩) n kc, .slice ra r rc, iv] 173) ∧ OwnF WW B (.slice ra r rc) Rl ∧ (∃ q, vv 0 = .slice (some ⟨q, 0, none⟩) 1 1 ∧ WW.heap[q]? = some (.cells #[.int .i64 f.t, .int .i64 f.x, .int .i64 f.y, .int .i64 f.z, .int .i64 f.e, .int .i64 f.a, .int .i64 f.b, .int .i64 f.c, .int .i64 f.d, .int .i64 f.g] 55)) | 2 => WW.heap[g]? = some (.cells #[.int .i64 m0, .int .i64 m1, .int .i64 m2, .int .i64 m3, .slice (some ⟨bk, 0, none⟩) n kc, .slice ra r rc, iv] 173) ∧ OwnF WW B (vv 1) (Rl ++ [f]) ∧ (∀ b, Value.ownBlock (.slice (some ⟨bk, 0, none⟩) n kc) = some b → Value.ownBlock (vv 1) ≠ some b) | _ => WW.heap[g]? = some (.cells #[.int .i64 m0, .int .i64 m1, .int .i64 m2, .int .i64 m3, .slice (some ⟨bk, 0, none⟩) n kc, (vv 1), iv] 173) ∧ OwnF WW B (vv 1) (Rl ++ [f]) ∧ (∀ b, Value.ownBlock (.slice (some ⟨bk, 0, none⟩) n kc) = some b → Value.ownBlock (vv 1) ≠ some b)) ∧ Below B w WW ∧ V.heap.size ≤ WW.heap.size ∧ WW.heap[w.heap.size]? = some (.cells f.row.toArray 55) ∧ OwnF WW B (.slice (some ⟨bk, 0, none⟩) n kc) Kl ∧ OwnI2 WW B iv I) 3 (fun j => if j = 2 then v9 else selV [6, 7, 10] us j) W9) => hK0 v9 A9 W9 h1 (hR.next (by decide) 2 (by decide) (.inr ⟨by decide, all_on hd ⟨7, Ground.data⟩ (by simp) rfl⟩) hL hS' (fun _ => by intro j hj; rw [List.mem_singleton.1 hj]; exact all_on hd ⟨4, Ground.phase⟩ (by simp) rfl))); clear hK0
      obtain ⟨⟨hg4, ho4, hap4⟩, ⟨hB4, hz4, hx4, hr4, hi4⟩⟩ := hS
      obtain ⟨v7, e7⟩ : ∃ v, us 7 = v := ⟨_, rfl⟩
      have ho5 : OwnF W B (us 7) (Rl ++ [f]) := ho4
      have hap5 : (∀ b, Value.ownBlock (.slice (some ⟨bk, 0, none⟩) n kc) = some b → Value.ownBlock (us 7) ≠ some b) := hap4
      rw [e7] at ho5 hap5
      obtain ⟨a9, c9, e99⟩ := OwnR.slice ho5
      subst e99
      have G4 := hid hg4
      have O5 := hid ho5
      have AP5 := hid hap5
      clear ho4 ho5 hg4 hap4 hap5
      have B4 := hid hB4
      have X4 := hid hx4
      have R4 := hid hr4
      have I4 := hid hi4
      clear hB4 hx4 hr4 hi4
      have z1 : W.frozen? ⟨g, 5, none⟩ = false := by have hh := G4.out; simp [World.frozen?, hh]
      have z0 : W.cell? ⟨g, 5, none⟩ = some (.slice ra r rc) := (cell_row (j := 5) G4.out).trans rfl
      generalize hl9 : ((Rl ++ [f]).map Fx.row).length = n9 at *
      have HL9 := hid hl9
      clear hl9
      clear hd
      simp only [putF]
      rw [hA, e9, e7]
      go_frame
      go_wp2_with fail
      refine hK.out undef _ _ (by rw [hA]; simp only [putF]; rw [e9, e7]; kernel_rfl) ?_
      have C9 := ClV.putR G4.out HGB.out R4.out I4.out O5.out AP5.out
      refine ⟨⟨?_, ?_, ?_⟩, below_set B4.out HGB.out _, by simp; omega, (setCell_other (fun e => by have h1 := HBXG.out; omega)).trans X4.out, C9.k, C9.i⟩
      · show _ = some (Obj.cells #[.int .i64 m0, .int .i64 m1, .int .i64 m2, .int .i64 m3, .slice (some ⟨bk, 0, none⟩) n kc, (us 7), iv] 173)
        rw [e7]
        exact C9.hg
      · show OwnF _ B (us 7) (Rl ++ [f])
        rw [e7]
        exact C9.r
      · show (∀ b, Value.ownBlock (.slice (some ⟨bk, 0, none⟩) n kc) = some b → Value.ownBlock (us 7) ≠ some b)
        rw [e7]
        exact AP5.out
  case htS =>
    intro L us W5 hall hR
    have hS := hR.last (fun i hi => match i, hi with | 0, _ => hall 6 (by decide) | 1, _ => hall 7 (by decide) | 2, _ => hall 10 (by decide))
    have e0 : us 0 = .pointer (some ⟨g, 0, none⟩) := hR.vals 0 (by decide) (hall 0 (by decide))
    have e1 : us 1 = .pointer (some ⟨g, 0, none⟩) := hR.vals 1 (by decide) (hall 1 (by decide))
    have e2 : us 2 = .pointer (some ⟨g, 0, none⟩) := hR.vals 2 (by decide) (hall 2 (by decide))
    have e3 : us 3 = .pointer (some ⟨g, 5, none⟩) := hR.vals 3 (by decide) (hall 3 (by decide))
    have e4 : us 4 = .slice ra r rc := hR.vals 4 (by decide) (hall 4 (by decide))
    have e5 : us 5 = .agg #[.int .i64 f.t, .int .i64 f.x, .int .i64 f.y, .int .i64 f.z, .int .i64 f.e, .int .i64 f.a, .int .i64 f.b, .int .i64 f.c, .int .i64 f.d, .int .i64 f.g] := hR.vals 5 (by decide) (hall 5 (by decide))
    have e8 : us 8 = .pointer (some ⟨g, 0, none⟩) := hR.vals 8 (by decide) (hall 8 (by decide))
    have e9 : us 9 = .pointer (some ⟨g, 5, none⟩) := hR.vals 9 (by decide) (hall 9 (by decide))
    clear hR hall
    obtain ⟨⟨hg5, ho5, hap5⟩, hB5, _, hx5, hr5, hi5⟩ := hS
    obtain ⟨v6, e6⟩ : ∃ v, us 6 = v := ⟨_, rfl⟩
    obtain ⟨v7, e7⟩ : ∃ v, us 7 = v := ⟨_, rfl⟩
    have hg6 : W5.heap[g]? = some (.cells #[.int .i64 m0, .int .i64 m1, .int .i64 m2, .int .i64 m3, .slice (some ⟨bk, 0, none⟩) n kc, (us 7), iv] 173) := hg5
    have ho6 : OwnF W5 B (us 7) (Rl ++ [f]) := ho5
    have hap6 : (∀ b, Value.ownBlock (.slice (some ⟨bk, 0, none⟩) n kc) = some b → Value.ownBlock (us 7) ≠ some b) := hap5
    rw [e7] at hg6 ho6 hap6
    have C5 := hid (show ClV W5 B g m0 m1 m2 m3 Kl (Rl ++ [f]) I (.slice (some ⟨bk, 0, none⟩) n kc) v7 iv from ⟨hg6, HGB.out, hr5, ho6, hi5, hap6⟩)
    have B5 := hid hB5
    have X5 := hid hx5
    clear hg5 ho5 hB5 hr5 hi5 hg6 ho6 hap5 hap6 hx5
    simp only [putF]
    rw [hA, e0, e1, e2, e3, e4, e5, e8, e9, e6, e7]
    go_frame
    clear hA e6 e7 e0 e1 e2 e3 e4 e5 e8 e9
    obtain ⟨a7, c7, h7⟩ := OwnR.slice C5.out.r
    obtain ⟨r1, hr1⟩ : ∃ r1, r1 = r + 1 := ⟨_, rfl⟩
    rw [show ((Rl ++ [f]).map Fx.row).length = r1 by rw [hr1, List.length_map, List.length_append, List.length_singleton, HNR.out]] at h7
    subst h7
    have HR1 := hid hr1
    have hr1b : r1 ≤ 100001 := by omega
    clear hr1
    have c57 : W5.cell? ⟨g, 5, none⟩ = some (.slice a7 r1 c7) := C5.out.c5
    have hr9 : r1 = k + 3 := by have h1 := HR1.out; have h2 := HNR.out; omega
    have hk4 : (r1 : Int) - 3 = (k : Int) := by omega
    have d7 : decide ((k : Int) < 0) = false := decide_eq_false (by omega)
    have hka1 : k < r1 := by omega
    have hka2 : k + 1 < r1 := by omega
    have hka3 : k + 2 < r1 := by omega
    have hokf : ∀ p ∈ Rl ++ [f], p.ok = true := fun p hp => by rcases List.mem_append.1 hp with hp | hp; (· exact hokr p hp); (· rw [List.mem_singleton.1 hp]; exact hf)
    have HR9 := hid hr9
    clear hr9
    obtain ⟨b7, ha7, hrow7, hbl7⟩ := own_at C5.out.r hxa
    subst ha7
    have hca := row_of hrow7 hxa (k * 10) rfl
    have hcb := row_of hrow7 hxb ((k + 1) * 10) rfl
    have hcc := row_of hrow7 hxc ((k + 2) * 10) rfl
    have HN1 := hid (show ∀ W, Calls Try.prog 92 #[.agg #[.int .i64 xa.t, .int .i64 xa.x, .int .i64 xa.y, .int .i64 xa.z, .int .i64 xa.e, .int .i64 xa.a, .int .i64 xa.b, .int .i64 xa.c, .int .i64 xa.d, .int .i64 xa.g], .agg #[.int .i64 xb.t, .int .i64 xb.x, .int .i64 xb.y, .int .i64 xb.z, .int .i64 xb.e, .int .i64 xb.a, .int .i64 xb.b, .int .i64 xb.c, .int .i64 xb.d, .int .i64 xb.g], .agg #[.int .i64 m0, .int .i64 m1, .int .i64 m2, .int .i64 m3]] W fun r w' => r = .returned (.bool false) ∧ Below W.heap.size W w' from fun W => hn1 ▸ nearX_any xa xb m0 m1 m2 m3 W (hokf _ (List.mem_of_getElem? hxa)) (hokf _ (List.mem_of_getElem? hxb)) hm)
    have cm0 := fun d os => cell_regrown C5.out.c0 d os
    have cm1 := fun d os => cell_regrown C5.out.c1 d os
    have cm2 := fun d os => cell_regrown C5.out.c2 d os
    have cm3 := fun d os => cell_regrown C5.out.c3 d os
    have cm5 := fun d os => cell_regrown C5.out.c5 d os
    have pa0 := fun d os => cell_regrown (w := W5) (a := ⟨b7, k * 10, none⟩) (v := .int .i64 xa.t) (hca 0 (by decide)) d os
    have pa1 := fun d os => cell_regrown (w := W5) (a := ⟨b7, k * 10 + 1, none⟩) (v := .int .i64 xa.x) (hca 1 (by decide)) d os
    have pa2 := fun d os => cell_regrown (w := W5) (a := ⟨b7, k * 10 + 2, none⟩) (v := .int .i64 xa.y) (hca 2 (by decide)) d os
    have pa3 := fun d os => cell_regrown (w := W5) (a := ⟨b7, k * 10 + 3, none⟩) (v := .int .i64 xa.z) (hca 3 (by decide)) d os
    have pa4 := fun d os => cell_regrown (w := W5) (a := ⟨b7, k * 10 + 4, none⟩) (v := .int .i64 xa.e) (hca 4 (by decide)) d os
    have pa5 := fun d os => cell_regrown (w := W5) (a := ⟨b7, k * 10 + 5, none⟩) (v := .int .i64 xa.a) (hca 5 (by decide)) d os
    have pa6 := fun d os => cell_regrown (w := W5) (a := ⟨b7, k * 10 + 6, none⟩) (v := .int .i64 xa.b) (hca 6 (by decide)) d os
    have pa7 := fun d os => cell_regrown (w := W5) (a := ⟨b7, k * 10 + 7, none⟩) (v := .int .i64 xa.c) (hca 7 (by decide)) d os
    have pa8 := fun d os => cell_regrown (w := W5) (a := ⟨b7, k * 10 + 8, none⟩) (v := .int .i64 xa.d) (hca 8 (by decide)) d os
    have pa9 := fun d os => cell_regrown (w := W5) (a := ⟨b7, k * 10 + 9, none⟩) (v := .int .i64 xa.g) (hca 9 (by decide)) d os
    have pb0 := fun d os => cell_regrown (w := W5) (a := ⟨b7, (k + 1) * 10, none⟩) (v := .int .i64 xb.t) (hcb 0 (by decide)) d os
    have pb1 := fun d os => cell_regrown (w := W5) (a := ⟨b7, (k + 1) * 10 + 1, none⟩) (v := .int .i64 xb.x) (hcb 1 (by decide)) d os
    have pb2 := fun d os => cell_regrown (w := W5) (a := ⟨b7, (k + 1) * 10 + 2, none⟩) (v := .int .i64 xb.y) (hcb 2 (by decide)) d os
    have pb3 := fun d os => cell_regrown (w := W5) (a := ⟨b7, (k + 1) * 10 + 3, none⟩) (v := .int .i64 xb.z) (hcb 3 (by decide)) d os
    have pb4 := fun d os => cell_regrown (w := W5) (a := ⟨b7, (k + 1) * 10 + 4, none⟩) (v := .int .i64 xb.e) (hcb 4 (by decide)) d os
    have pb5 := fun d os => cell_regrown (w := W5) (a := ⟨b7, (k + 1) * 10 + 5, none⟩) (v := .int .i64 xb.a) (hcb 5 (by decide)) d os
    have pb6 := fun d os => cell_regrown (w := W5) (a := ⟨b7, (k + 1) * 10 + 6, none⟩) (v := .int .i64 xb.b) (hcb 6 (by decide)) d os
    have pb7 := fun d os => cell_regrown (w := W5) (a := ⟨b7, (k + 1) * 10 + 7, none⟩) (v := .int .i64 xb.c) (hcb 7 (by decide)) d os
    have pb8 := fun d os => cell_regrown (w := W5) (a := ⟨b7, (k + 1) * 10 + 8, none⟩) (v := .int .i64 xb.d) (hcb 8 (by decide)) d os
    have pb9 := fun d os => cell_regrown (w := W5) (a := ⟨b7, (k + 1) * 10 + 9, none⟩) (v := .int .i64 xb.g) (hcb 9 (by decide)) d os
    have pc0 := fun d os => cell_regrown (w := W5) (a := ⟨b7, (k + 2) * 10, none⟩) (v := .int .i64 xc.t) (hcc 0 (by decide)) d os
    have pc1 := fun d os => cell_regrown (w := W5) (a := ⟨b7, (k + 2) * 10 + 1, none⟩) (v := .int .i64 xc.x) (hcc 1 (by decide)) d os
    have pc2 := fun d os => cell_regrown (w := W5) (a := ⟨b7, (k + 2) * 10 + 2, none⟩) (v := .int .i64 xc.y) (hcc 2 (by decide)) d os
    have pc3 := fun d os => cell_regrown (w := W5) (a := ⟨b7, (k + 2) * 10 + 3, none⟩) (v := .int .i64 xc.z) (hcc 3 (by decide)) d os
    have pc4 := fun d os => cell_regrown (w := W5) (a := ⟨b7, (k + 2) * 10 + 4, none⟩) (v := .int .i64 xc.e) (hcc 4 (by decide)) d os
    have pc5 := fun d os => cell_regrown (w := W5) (a := ⟨b7, (k + 2) * 10 + 5, none⟩) (v := .int .i64 xc.a) (hcc 5 (by decide)) d os
    have pc6 := fun d os => cell_regrown (w := W5) (a := ⟨b7, (k + 2) * 10 + 6, none⟩) (v := .int .i64 xc.b) (hcc 6 (by decide)) d os
    have pc7 := fun d os => cell_regrown (w := W5) (a := ⟨b7, (k + 2) * 10 + 7, none⟩) (v := .int .i64 xc.c) (hcc 7 (by decide)) d os
    have pc8 := fun d os => cell_regrown (w := W5) (a := ⟨b7, (k + 2) * 10 + 8, none⟩) (v := .int .i64 xc.d) (hcc 8 (by decide)) d os
    have pc9 := fun d os => cell_regrown (w := W5) (a := ⟨b7, (k + 2) * 10 + 9, none⟩) (v := .int .i64 xc.g) (hcc 9 (by decide)) d os
    have HXA := hid hxa
    have HXB := hid hxb
    have HXC := hid hxc
    clear hrow7 hca hcb hcc hxa hxb hxc hokf
    go_wp2_with fail
    refine wp_region_quiet_below (by kernel_rfl) (by kernel_rfl) ?_
    repeat (first | go_big_quiet_step ((first | (go_at_call 92; with_reducible exact Calls.regrown_of (HN1.out _)))) | quiet_step ((first | (go_at_call 92; with_reducible exact Calls.regrown_of (HN1.out _)))))
    refine wpQuiet_nil ?_
    intro _ hw'
    obtain ⟨⟨dqV7, osV7⟩, hw2⟩ := hw'
    subst hw2
    have HQV7 := hid (below_regrown W5 dqV7 osV7)
    generalize Sort.grow (redrawn W5 dqV7) osV7 = V7 at HQV7 ⊢
    have hsV7 := HQV7.out.size
    clear cm0 cm1 cm2 cm3 cm5 pa0 pa1 pa2 pa3 pa4 pa5 pa6 pa7 pa8 pa9 pb0 pb1 pb2 pb3 pb4 pb5 pb6 pb7 pb8 pb9 pc0 pc1 pc2 pc3 pc4 pc5 pc6 pc7 pc8 pc9
    go_wp2_with fail
    (first | (refine bodyPost_ret (results_none rfl _ _ _) rfl ?_) | go_end0)
    exact ⟨rfl, ⟨_, _, _, C5.out.still HQV7.out⟩, B5.out.trans (HQV7.out.mono (by have h1 := B5.out.size; have h2 := HLT.out; have h3 := HGB.out; omega))⟩
set_option maxRecDepth 100000 in
set_option maxHeartbeats 3200000 in
/-- a fix is put aside: the last two of the three are not near each other -/
theorem take_no2 (B g : Nat) (m0 m1 m2 m3 : Int) (Kl Rl : List Fx) (I : List (Int × Int)) (kv rv iv : Value) (f : Fx) (w : World) (h : ClV w B g m0 m1 m2 m3 Kl Rl I kv rv iv) (hn : I.length + Rl.length ≤ 100000) (hk : Kl.length ≤ 100000) (hf : f.ok = true) (hm : 0 ≤ m1 ∧ m1 ≤ 1000000) (hok : ∀ p ∈ Kl, p.ok = true) (h0 : 0 < Kl.length) (hkeep : keepG (nearB m1) Kl f = false) (xa xb xc : Fx) (k : Nat) (hk3 : Rl.length = k + 2) (hxa : (Rl ++ [f])[k]? = some xa) (hxb : (Rl ++ [f])[k + 1]? = some xb) (hxc : (Rl ++ [f])[k + 2]? = some xc) (hokr : ∀ p ∈ Rl, p.ok = true) (hn1 : nearB m1 xa xb = true) (hn2 : nearB m1 xb xc = false) :
    Calls Try.prog 121 #[.pointer (some ⟨g, 0, none⟩), .agg f.row.toArray] w fun r w' => r = .returned (.tuple #[]) ∧ Cl w' B g m0 m1 m2 m3 (Kl, Rl ++ [f], I) ∧ Below B w w' := by
  have HLT := hid h.lt
  have HGB := hid h.hB
  have HKR := hid h.kr
  obtain ⟨ka, kc, hkv⟩ := OwnR.slice h.k
  rw [List.length_map] at hkv
  subst hkv
  obtain ⟨ra, rc, hrv⟩ := OwnR.slice h.r
  rw [List.length_map] at hrv
  subst hrv
  have H := hid h
  clear h
  obtain ⟨i0, hi, hz0, hz1, hz2⟩ := info_parts info55f
  have HI := hid hi
  have HZ0 := hid hz0
  have HZ1 := hid hz1
  have HZ2 := hid hz2
  clear hi hz0 hz1 hz2
  obtain ⟨n, hnn⟩ : ∃ n, n = Kl.length := ⟨_, rfl⟩
  obtain ⟨r, hrr⟩ : ∃ r, r = Rl.length := ⟨_, rfl⟩
  rw [← hnn] at H HKR hk
  rw [← hrr] at H HKR
  (try rw [← hrr] at hn)
  have HNA := hid hnn
  have HNR := hid hrr
  clear hnn hrr
  go_enter Try.func121, Try.ntmps121
  go_upto_region 1 with fail
  refine gen_world (fun W0 hW0 => ?_)
  have KB := hid (show W0.heap[w.heap.size]? = some (.cells f.row.toArray 55) by rw [hW0]; exact heap_alloc_at _ _ _ rfl)
  have HB0 := hid (show Below w.heap.size w W0 by rw [hW0]; exact (Below.refl _ _).alloc (Nat.le_refl _) _)
  clear hW0
  have HC := hid (H.out.still HB0.out)
  have HBB := hid (show Below B w W0 from HB0.out.mono (by have h1 := HLT.out; have h2 := HGB.out; omega))
  have hbx : w.heap.size < W0.heap.size := (Array.getElem?_eq_some_iff.1 KB.out).1
  have c4 : W0.cell? ⟨g, 4, none⟩ = some (.slice ka n kc) := HC.out.c4
  rw [← HNA.out] at h0
  have d0 : ((n : Int) == 0) = false := by simp; omega
  have hn0 : 0 < n := by omega
  have d1 : decide ((0 : Int) < (n : Int)) = true := decide_eq_true (by omega)
  obtain ⟨x, hx⟩ : ∃ x, Kl[n - 1]? = some x := ⟨_, List.getElem?_eq_getElem (by rw [← HNA.out]; omega)⟩
  have hnear : nearB m1 x f = false := by
    unfold keepG at hkeep
    rw [List.getLast?_eq_getElem?, ← HNA.out, hx] at hkeep
    exact hkeep
  have hxo := hok x (List.mem_of_getElem? hx)
  obtain ⟨bk, hka, hrow, hbl⟩ := own_at HC.out.k hx
  subst hka
  have hc := row_of hrow hx ((n - 1) * 10) rfl
  have HNQ := hid (show ∀ W, Calls Try.prog 92 #[.agg #[.int .i64 x.t, .int .i64 x.x, .int .i64 x.y, .int .i64 x.z, .int .i64 x.e, .int .i64 x.a, .int .i64 x.b, .int .i64 x.c, .int .i64 x.d, .int .i64 x.g], .agg #[.int .i64 f.t, .int .i64 f.x, .int .i64 f.y, .int .i64 f.z, .int .i64 f.e, .int .i64 f.a, .int .i64 f.b, .int .i64 f.c, .int .i64 f.d, .int .i64 f.g], .agg #[.int .i64 m0, .int .i64 m1, .int .i64 m2, .int .i64 m3]] W fun r w' => r = .returned (.bool false) ∧ Below W.heap.size W w' from fun W => hnear ▸ nearX_any x f m0 m1 m2 m3 W hxo hf hm)
  have cm0 := fun d os => cell_regrown HC.out.c0 d os
  have cm1 := fun d os => cell_regrown HC.out.c1 d os
  have cm2 := fun d os => cell_regrown HC.out.c2 d os
  have cm3 := fun d os => cell_regrown HC.out.c3 d os
  have cm4 := fun d os => cell_regrown HC.out.c4 d os
  have p0 := fun d os => cell_regrown (w := W0) (a := ⟨bk, (n - 1) * 10, none⟩) (v := .int .i64 x.t) (hc 0 (by decide)) d os
  have p1 := fun d os => cell_regrown (w := W0) (a := ⟨bk, (n - 1) * 10 + 1, none⟩) (v := .int .i64 x.x) (hc 1 (by decide)) d os
  have p2 := fun d os => cell_regrown (w := W0) (a := ⟨bk, (n - 1) * 10 + 2, none⟩) (v := .int .i64 x.y) (hc 2 (by decide)) d os
  have p3 := fun d os => cell_regrown (w := W0) (a := ⟨bk, (n - 1) * 10 + 3, none⟩) (v := .int .i64 x.z) (hc 3 (by decide)) d os
  have p4 := fun d os => cell_regrown (w := W0) (a := ⟨bk, (n - 1) * 10 + 4, none⟩) (v := .int .i64 x.e) (hc 4 (by decide)) d os
  have p5 := fun d os => cell_regrown (w := W0) (a := ⟨bk, (n - 1) * 10 + 5, none⟩) (v := .int .i64 x.a) (hc 5 (by decide)) d os
  have p6 := fun d os => cell_regrown (w := W0) (a := ⟨bk, (n - 1) * 10 + 6, none⟩) (v := .int .i64 x.b) (hc 6 (by decide)) d os
  have p7 := fun d os => cell_regrown (w := W0) (a := ⟨bk, (n - 1) * 10 + 7, none⟩) (v := .int .i64 x.c) (hc 7 (by decide)) d os
  have p8 := fun d os => cell_regrown (w := W0) (a := ⟨bk, (n - 1) * 10 + 8, none⟩) (v := .int .i64 x.d) (hc 8 (by decide)) d os
  have p9 := fun d os => cell_regrown (w := W0) (a := ⟨bk, (n - 1) * 10 + 9, none⟩) (v := .int .i64 x.g) (hc 9 (by decide)) d os
  have q0 := fun d os => cell_regrown (w := W0) (a := ⟨w.heap.size, 0, none⟩) (v := .int .i64 f.t) ((cell_row (j := 0) KB.out).trans rfl) d os
  have q1 := fun d os => cell_regrown (w := W0) (a := ⟨w.heap.size, 1, none⟩) (v := .int .i64 f.x) ((cell_row (j := 1) KB.out).trans rfl) d os
  have q2 := fun d os => cell_regrown (w := W0) (a := ⟨w.heap.size, 2, none⟩) (v := .int .i64 f.y) ((cell_row (j := 2) KB.out).trans rfl) d os
  have q3 := fun d os => cell_regrown (w := W0) (a := ⟨w.heap.size, 3, none⟩) (v := .int .i64 f.z) ((cell_row (j := 3) KB.out).trans rfl) d os
  have q4 := fun d os => cell_regrown (w := W0) (a := ⟨w.heap.size, 4, none⟩) (v := .int .i64 f.e) ((cell_row (j := 4) KB.out).trans rfl) d os
  have q5 := fun d os => cell_regrown (w := W0) (a := ⟨w.heap.size, 5, none⟩) (v := .int .i64 f.a) ((cell_row (j := 5) KB.out).trans rfl) d os
  have q6 := fun d os => cell_regrown (w := W0) (a := ⟨w.heap.size, 6, none⟩) (v := .int .i64 f.b) ((cell_row (j := 6) KB.out).trans rfl) d os
  have q7 := fun d os => cell_regrown (w := W0) (a := ⟨w.heap.size, 7, none⟩) (v := .int .i64 f.c) ((cell_row (j := 7) KB.out).trans rfl) d os
  have q8 := fun d os => cell_regrown (w := W0) (a := ⟨w.heap.size, 8, none⟩) (v := .int .i64 f.d) ((cell_row (j := 8) KB.out).trans rfl) d os
  have q9 := fun d os => cell_regrown (w := W0) (a := ⟨w.heap.size, 9, none⟩) (v := .int .i64 f.g) ((cell_row (j := 9) KB.out).trans rfl) d os
  clear hc hrow hx hnear hxo hkeep
  go_wp2_with fail
  refine wp_region_quiet_below (by kernel_rfl) (by kernel_rfl) ?_
  repeat (first | go_big_quiet_step ((go_at_call 92; with_reducible exact Calls.regrown_of (HNQ.out _))) | quiet_step ((go_at_call 92; with_reducible exact Calls.regrown_of (HNQ.out _))))
  refine wpQuiet_nil ?_
  intro _ hw'
  obtain ⟨⟨dqV, osV⟩, hw2⟩ := hw'
  subst hw2
  have HQV := hid (below_regrown W0 dqV osV)
  generalize Sort.grow (redrawn W0 dqV) osV = V at HQV ⊢
  have hsV := HQV.out.size
  clear cm0 cm1 cm2 cm3 cm4 p0 p1 p2 p3 p4 p5 p6 p7 p8 p9 q0 q1 q2 q3 q4 q5 q6 q7 q8 q9
  have HBV := hid (HBB.out.trans (HQV.out.mono (by have h1 := HLT.out; have h2 := HGB.out; have h3 := HB0.out.size; omega)))
  have HCV := hid (HC.out.still HQV.out)
  have KBV := hid (heap_still HQV.out KB.out)
  have hbv : w.heap.size < V.heap.size := (Array.getElem?_eq_some_iff.1 KBV.out).1
  have hbw := HB0.out.size
  have HBXL := hid (fun k (hk : (Value.slice (some ⟨bk, 0, none⟩) n kc).ownBlock = some k) => show k < w.heap.size from own_blocks_lt H.out.k hk)
  have HBXR := hid (fun k (hk : (Value.slice ra r rc).ownBlock = some k) => show k < w.heap.size from own_blocks_lt H.out.r hk)
  have HBXG := hid (show g < w.heap.size from HLT.out)
  clear HQV KB HC
  have KB := hid KBV.out
  have HBX := hid (show (Value.slice ra r rc).ownBlock ≠ some w.heap.size from fun e => by have := HBXR.out _ e; omega)
  clear KBV HBXL HBXR
  go_wp2_with fail
  refine gen_act (fun A0 hA => ?_)
  refine wp_region_by (by kernel_rfl) (by kernel_rfl) [some 42, some 43, some 44, some 45, some 46, some 47, some 48, some 49, some 50, some 51, none] rfl (by decide) (StR (fun j => ([.pointer (some ⟨g, 0, none⟩), .pointer (some ⟨g, 0, none⟩), .pointer (some ⟨g, 0, none⟩), .pointer (some ⟨g, 5, none⟩), .slice ra r rc, .agg #[.int .i64 f.t, .int .i64 f.x, .int .i64 f.y, .int .i64 f.z, .int .i64 f.e, .int .i64 f.a, .int .i64 f.b, .int .i64 f.c, .int .i64 f.d, .int .i64 f.g], undef, undef, .pointer (some ⟨g, 0, none⟩), .pointer (some ⟨g, 5, none⟩), undef] : List Value).getD j undef) [6, 7, 10] [4] (fun kk vv WW => (match kk with | 0 => WW.heap[g]? = some (.cells #[.int .i64 m0, .int .i64 m1, .int .i64 m2, .int .i64 m3, .slice (some ⟨bk, 0, none⟩) n kc, .slice ra r rc, iv] 173) ∧ OwnF WW B (.slice ra r rc) Rl | 1 => WW.heap[g]? = some (.cells #[.int .i64 m0, .int .i64 m1, .int .i64 m2, .int .i64 m3, .slice (some ⟨bk, 0, none⟩) n kc, .slice ra r rc, iv] 173) ∧ OwnF WW B (.slice ra r rc) Rl ∧ (∃ q, vv 0 = .slice (some ⟨q, 0, none⟩) 1 1 ∧ WW.heap[q]? = some (.cells #[.int .i64 f.t, .int .i64 f.x, .int .i64 f.y, .int .i64 f.z, .int .i64 f.e, .int .i64 f.a, .int .i64 f.b, .int .i64 f.c, .int .i64 f.d, .int .i64 f.g] 55)) | 2 => WW.heap[g]? = some (.cells #[.int .i64 m0, .int .i64 m1, .int .i64 m2, .int .i64 m3, .slice (some ⟨bk, 0, none⟩) n kc, .slice ra r rc, iv] 173) ∧ OwnF WW B (vv 1) (Rl ++ [f]) ∧ (∀ b, Value.ownBlock (.slice (some ⟨bk, 0, none⟩) n kc) = some b → Value.ownBlock (vv 1) ≠ some b) | _ => WW.heap[g]? = some (.cells #[.int .i64 m0, .int .i64 m1, .int .i64 m2, .int .i64 m3, .slice (some ⟨bk, 0, none⟩) n kc, (vv 1), iv] 173) ∧ OwnF WW B (vv 1) (Rl ++ [f]) ∧ (∀ b, Value.ownBlock (.slice (some ⟨bk, 0, none⟩) n kc) = some b → Value.ownBlock (vv 1) ≠ some b)) ∧ Below B w WW ∧ V.heap.size ≤ WW.heap.size ∧ WW.heap[w.heap.size]? = some (.cells f.row.toArray 55) ∧ OwnF WW B (.slice (some ⟨bk, 0, none⟩) n kc) Kl ∧ OwnI2 WW B iv I)) (selfF A0 _) (putF_self A0 _)
    (StR.start ⟨⟨(HCV.out.still (Below.refl _ _).drew).hg, (HCV.out.still (Below.refl _ _).drew).r⟩, HBV.out.drew, Nat.le_refl _, heap_still (Below.refl _ _).drew KB.out, (HCV.out.still (Below.refl _ _).drew).k, (HCV.out.still (Below.refl _ _).drew).i⟩ (fun _ => rfl)) ?hsS ?htS
  case hsS =>
    refine ⟨?_, ?_, ?_, ?_, ?_, ?_, ?_, ?_, ?_, ?_, ?_, trivial⟩
    · intro K L us W hK0 hL hd hR
      have hK := hid (fun v9 A9 h1 (h3 : v9 = .pointer (some ⟨g, 0, none⟩)) => hK0 v9 A9 W h1 (hR.pure (by decide) h3)); clear hK0
      clear hd
      simp only [putF]
      rw [hA]
      go_frame
      go_wp2_with fail
      exact hK.out _ _ (by rw [hA]; simp only [putF]; kernel_rfl) rfl
    · intro K L us W hK0 hL hd hR
      have hK := hid (fun v9 A9 h1 (h3 : v9 = .pointer (some ⟨g, 0, none⟩)) => hK0 v9 A9 W h1 (hR.pure (by decide) h3)); clear hK0
      clear hd
      simp only [putF]
      rw [hA]
      go_frame
      go_wp2_with fail
      exact hK.out _ _ (by rw [hA]; simp only [putF]; kernel_rfl) rfl
    · intro K L us W hK0 hL hd hR
      have e1 : us 1 = .pointer (some ⟨g, 0, none⟩) := hR.vals 1 (by decide) (all_on hd ⟨1, Ground.data⟩ (by simp) rfl)
      have hK := hid (fun v9 A9 h1 (h3 : v9 = .pointer (some ⟨g, 0, none⟩)) => hK0 v9 A9 W h1 (hR.pure (by decide) h3)); clear hK0
      clear hd
      simp only [putF]
      rw [hA, e1]
      go_frame
      go_wp2_with fail
      exact hK.out _ _ (by rw [hA]; simp only [putF]; rw [e1]; kernel_rfl) rfl
    · intro K L us W hK0 hL hd hR
      have e2 : us 2 = .pointer (some ⟨g, 0, none⟩) := hR.vals 2 (by decide) (all_on hd ⟨2, Ground.data⟩ (by simp) rfl)
      have hK := hid (fun v9 A9 h1 (h3 : v9 = .pointer (some ⟨g, 5, none⟩)) => hK0 v9 A9 W h1 (hR.pure (by decide) h3)); clear hK0
      clear hd
      simp only [putF]
      rw [hA, e2]
      go_frame
      go_wp2_with fail
      exact hK.out _ _ (by rw [hA]; simp only [putF]; rw [e2]; kernel_rfl) rfl
    · intro K L us W hK0 hL hd hR
      have e3 : us 3 = .pointer (some ⟨g, 5, none⟩) := hR.vals 3 (by decide) (all_on hd ⟨3, Ground.data⟩ (by simp) rfl)
      have hK := hid (fun v9 A9 h1 (h3 : v9 = .slice ra r rc) => hK0 v9 A9 W h1 (hR.pure (by decide) h3)); clear hK0
      have c0 : W.cell? ⟨g, 5, none⟩ = some (.slice ra r rc) := by obtain ⟨k9, hk9, hS9⟩ := hR.early (j := 4) (by decide) hL (by decide); match k9, hk9, hS9 with | 0, _, hS9 => exact (cell_row (j := 5) hS9.1.1).trans rfl | 1, _, hS9 => exact (cell_row (j := 5) hS9.1.1).trans rfl | 2, _, hS9 => exact (cell_row (j := 5) hS9.1.1).trans rfl
      clear hd
      simp only [putF]
      rw [hA, e3]
      go_frame
      go_wp2_with fail
      exact hK.out _ _ (by rw [hA]; simp only [putF]; rw [e3]; kernel_rfl) rfl
    · intro K L us W hK0 hL hd hR
      have hK := hid (fun v9 A9 h1 (h3 : v9 = .agg #[.int .i64 f.t, .int .i64 f.x, .int .i64 f.y, .int .i64 f.z, .int .i64 f.e, .int .i64 f.a, .int .i64 f.b, .int .i64 f.c, .int .i64 f.d, .int .i64 f.g]) => hK0 v9 A9 W h1 (hR.pure (by decide) h3)); clear hK0
      have hx9 : W.heap[w.heap.size]? = some (.cells f.row.toArray 55) := by obtain ⟨_, _, _, hSq⟩ := hR.st; exact hSq.2.2.2.1
      clear hd
      simp only [putF]
      rw [hA]
      go_frame
      go_wp2_with (refine wpList_load_at rfl 55 (.tmp 3) rfl rfl hx9 Try.underlying55 rfl size55f (row_arr f) ?_)
      exact hK.out _ _ (by rw [hA]; simp only [putF]; kernel_rfl) rfl
    · intro K L us W hK0 hL hd hR
      have e5 : us 5 = .agg #[.int .i64 f.t, .int .i64 f.x, .int .i64 f.y, .int .i64 f.z, .int .i64 f.e, .int .i64 f.a, .int .i64 f.b, .int .i64 f.c, .int .i64 f.d, .int .i64 f.g] := hR.vals 5 (by decide) (all_on hd ⟨5, Ground.data⟩ (by simp) rfl)
      have hS := hR.at 0 (by decide) (.inl rfl) hL
      have hK := hid (fun v9 A9 W9 h1 (hS' : (fun kk vv WW => (match kk with | 0 => WW.heap[g]? = some (.cells #[.int .i64 m0, .int .i64 m1, .int .i64 m2, .int .i64 m3, .slice (some ⟨bk, 0, none⟩) n kc, .slice ra r rc, iv] 173) ∧ OwnF WW B (.slice ra r rc) Rl | 1 => WW.heap[g]? = some (.cells #[.int .i64 m0, .int .i64 m1, .int .i64 m2, .int .i64 m3, .slice (some ⟨bk, 0, none⟩) n kc, .slice ra r rc, iv] 173) ∧ OwnF WW B (.slice ra r rc) Rl ∧ (∃ q, vv 0 = .slice (some ⟨q, 0, none⟩) 1 1 ∧ WW.heap[q]? = some (.cells #[.int .i64 f.t, .int .i64 f.x, .int .i64 f.y, .int .i64 f.z, .int .i64 f.e, .int .i64 f.a, .int .i64 f.b, .int .i64 f.c, .int .i64 f.d, .int .i64 f.g] 55)) | 2 => WW.heap[g]? = some (.cells #[.int .i64 m0, .int .i64 m1, .int .i64 m2, .int .i64 m3, .slice (some ⟨bk, 0, none⟩) n kc, .slice ra r rc, iv] 173) ∧ OwnF WW B (vv 1) (Rl ++ [f]) ∧ (∀ b, Value.ownBlock (.slice (some ⟨bk, 0, none⟩) n kc) = some b → Value.ownBlock (vv 1) ≠ some b) | _ => WW.heap[g]? = some (.cells #[.int .i64 m0, .int .i64 m1, .int .i64 m2, .int .i64 m3, .slice (some ⟨bk, 0, none⟩) n kc, (vv 1), iv] 173) ∧ OwnF WW B (vv 1) (Rl ++ [f]) ∧ (∀ b, Value.ownBlock (.slice (some ⟨bk, 0, none⟩) n kc) = some b → Value.ownBlock (vv 1) ≠ some b)) ∧ Below B w WW ∧ V.heap.size ≤ WW.heap.size ∧ WW.heap[w.heap.size]? = some (.cells f.row.toArray 55) ∧ OwnF WW B (.slice (some ⟨bk, 0, none⟩) n kc) Kl ∧ OwnI2 WW B iv I) 1 (fun j => if j = 0 then v9 else selV [6, 7, 10] us j) W9) => hK0 v9 A9 W9 h1 (hR.next (by decide) 0 (by decide) (.inl rfl) hL hS' (fun h => absurd h (by decide)))); clear hK0
      obtain ⟨⟨hg4, ho4⟩, ⟨hB4, hz4, hx4, hr4, hi4⟩⟩ := hS
      have G4 := hid hg4
      have O4 := hid ho4
      clear hg4 ho4
      have B4 := hid hB4
      have X4 := hid hx4
      have R4 := hid hr4
      have I4 := hid hi4
      clear hB4 hx4 hr4 hi4
      clear hd
      simp only [putF]
      rw [hA, e5]
      go_frame
      go_wp2_with fail
      refine hK.out (.slice (some ⟨W.heap.size, 0, none⟩) 1 1) _ _ (by rw [hA]; simp only [putF]; rw [e5]; kernel_rfl) ?_
      exact ⟨⟨heap_still ((Below.refl W.heap.size W).alloc (Nat.le_refl _) (.cells #[.int .i64 f.t, .int .i64 f.x, .int .i64 f.y, .int .i64 f.z, .int .i64 f.e, .int .i64 f.a, .int .i64 f.b, .int .i64 f.c, .int .i64 f.d, .int .i64 f.g] 55)) G4.out, O4.out.grow ((Below.refl W.heap.size W).alloc (Nat.le_refl _) (.cells #[.int .i64 f.t, .int .i64 f.x, .int .i64 f.y, .int .i64 f.z, .int .i64 f.e, .int .i64 f.a, .int .i64 f.b, .int .i64 f.c, .int .i64 f.d, .int .i64 f.g] 55)), ⟨W.heap.size, rfl, heap_alloc_at _ _ _ rfl⟩⟩, B4.out.trans (((Below.refl W.heap.size W).alloc (Nat.le_refl _) (.cells #[.int .i64 f.t, .int .i64 f.x, .int .i64 f.y, .int .i64 f.z, .int .i64 f.e, .int .i64 f.a, .int .i64 f.b, .int .i64 f.c, .int .i64 f.d, .int .i64 f.g] 55)).mono (by have h1 := B4.out.size; have h2 := HLT.out; have h3 := HGB.out; omega)), by simp; omega, heap_still ((Below.refl W.heap.size W).alloc (Nat.le_refl _) (.cells #[.int .i64 f.t, .int .i64 f.x, .int .i64 f.y, .int .i64 f.z, .int .i64 f.e, .int .i64 f.a, .int .i64 f.b, .int .i64 f.c, .int .i64 f.d, .int .i64 f.g] 55)) X4.out, R4.out.grow ((Below.refl W.heap.size W).alloc (Nat.le_refl _) (.cells #[.int .i64 f.t, .int .i64 f.x, .int .i64 f.y, .int .i64 f.z, .int .i64 f.e, .int .i64 f.a, .int .i64 f.b, .int .i64 f.c, .int .i64 f.d, .int .i64 f.g] 55)), I4.out.grow ((Below.refl W.heap.size W).alloc (Nat.le_refl _) (.cells #[.int .i64 f.t, .int .i64 f.x, .int .i64 f.y, .int .i64 f.z, .int .i64 f.e, .int .i64 f.a, .int .i64 f.b, .int .i64 f.c, .int .i64 f.d, .int .i64 f.g] 55))⟩
    · intro K L us W hK0 hL hd hR
      have e4 : us 4 = .slice ra r rc := hR.vals 4 (by decide) (all_on hd ⟨4, Ground.data⟩ (by simp) rfl)
      have hS := hR.at 1 (by decide) (.inr ⟨by decide, all_on hd ⟨6, Ground.data⟩ (by simp) rfl⟩) hL
      have hK := hid (fun v9 A9 W9 h1 (hS' : (fun kk vv WW => (match kk with | 0 => WW.heap[g]? = some (.cells #[.int .i64 m0, .int .i64 m1, .int .i64 m2, .int .i64 m3, .slice (some ⟨bk, 0, none⟩) n kc, .slice ra r rc, iv] 173) ∧ OwnF WW B (.slice ra r rc) Rl | 1 => WW.heap[g]? = some (.cells #[.int .i64 m0, .int .i64 m1, .int .i64 m2, .int .i64 m3, .slice (some ⟨bk, 0, none⟩) n kc, .slice ra r rc, iv] 173) ∧ OwnF WW B (.slice ra r rc) Rl ∧ (∃ q, vv 0 = .slice (some ⟨q, 0, none⟩) 1 1 ∧ WW.heap[q]? = some (.cells #[.int .i64 f.t, .int .i64 f.x, .int .i64 f.y, .int .i64 f.z, .int .i64 f.e, .int .i64 f.a, .int .i64 f.b, .int .i64 f.c, .int .i64 f.d, .int .i64 f.g] 55)) | 2 => WW.heap[g]? = some (.cells #[.int .i64 m0, .int .i64 m1, .int .i64 m2, .int .i64 m3, .slice (some ⟨bk, 0, none⟩) n kc, .slice ra r rc, iv] 173) ∧ OwnF WW B (vv 1) (Rl ++ [f]) ∧ (∀ b, Value.ownBlock (.slice (some ⟨bk, 0, none⟩) n kc) = some b → Value.ownBlock (vv 1) ≠ some b) | _ => WW.heap[g]? = some (.cells #[.int .i64 m0, .int .i64 m1, .int .i64 m2, .int .i64 m3, .slice (some ⟨bk, 0, none⟩) n kc, (vv 1), iv] 173) ∧ OwnF WW B (vv 1) (Rl ++ [f]) ∧ (∀ b, Value.ownBlock (.slice (some ⟨bk, 0, none⟩) n kc) = some b → Value.ownBlock (vv 1) ≠ some b)) ∧ Below B w WW ∧ V.heap.size ≤ WW.heap.size ∧ WW.heap[w.heap.size]? = some (.cells f.row.toArray 55) ∧ OwnF WW B (.slice (some ⟨bk, 0, none⟩) n kc) Kl ∧ OwnI2 WW B iv I) 2 (fun j => if j = 1 then v9 else selV [6, 7, 10] us j) W9) => hK0 v9 A9 W9 h1 (hR.next (by decide) 1 (by decide) (.inr ⟨by decide, all_on hd ⟨6, Ground.data⟩ (by simp) rfl⟩) hL hS' (fun h => absurd h (by decide)))); clear hK0
      obtain ⟨⟨hg4, ho4, ⟨q, hq, hq4⟩⟩, ⟨hB4, hz4, hx4, hr4, hi4⟩⟩ := hS
      have e6 : us 6 = .slice (some ⟨q, 0, none⟩) 1 1 := hq
      have G4 := hid hg4
      have O4 := hid ho4
      have Q4 := hid hq4
      clear hg4 ho4 hq hq4
      have B4 := hid hB4
      have X4 := hid hx4
      have R4 := hid hr4
      have I4 := hid hi4
      clear hB4 hx4 hr4 hi4
      have HL1 := hid (show (Rl.map Fx.row).length + [f.row].length ≤ maxLen by rw [List.length_map, ← HNR.out, List.length_singleton]; unfold maxLen; omega)
      have HL2 := hid (show ((Rl.map Fx.row).length + [f.row].length) * 80 ≤ 140737488355328 by rw [List.length_map, ← HNR.out, List.length_singleton]; omega)
      have HL3 := hid (show B ≤ W.heap.size by have h1 := B4.out.size; have h2 := HLT.out; have h3 := HGB.out; omega)
      clear hd
      simp only [putF]
      rw [hA, e4, e6]
      go_frame
      go_wp2_with (first | (at_builtin; go_loud (refine wpList_append_rowsR rfl (.tmp 46) (.tmp 48) 106 rfl B 55 i0 _ 10 80 Try.underlying106 HI.out HZ0.out HZ1.out HZ2.out rfl (by decide) _ (Rl.map Fx.row) [f.row] rfl O4.out q 0 1 1 rfl rfl (rows_one (f := f) Q4.out) (rows_wide [f]) HL1.out HL2.out HL3.out ?_; intro v7 w7 ho1 ho2 ho3; have HO1 := hid ho1; have HO2 := hid ho2; have HO3 := hid ho3; clear ho1 ho2 ho3)))
      refine hK.out v7 _ _ (by rw [hA]; simp only [putF]; rw [e4, e6]; kernel_rfl) ?_
      have hb : ∀ k, (Value.ownBlock (.slice ra r rc)) ≠ some k → k < W.heap.size → w7.heap[k]? = W.heap[k]? := fun k hk hlt => HO2.out.block k hlt (fun e => hk e.symm)
      have hgl : ∀ {k : Nat} {x : Obj}, W.heap[k]? = some x → k < W.heap.size := fun h => (Array.getElem?_eq_some_iff.1 h).1
      refine ⟨⟨(hb g (own_not O4.out G4.out (by decide)) (hgl G4.out)).trans G4.out, by have h1 := HO1.out; unfold OwnF; rw [List.map_append]; exact h1, fun b hb hb2 => by have hb3 : Value.ownBlock v7 = some b := hb2; rcases HO3.out with e | e; (· exact HKR.out b hb (e ▸ hb3)); (· rw [e] at hb3; injection hb3 with hb3; subst hb3; have := own_blocks_lt R4.out hb; omega)⟩, below_grown B4.out HO2.out (fun k hk => OwnR.ownBlock O4.out k hk) HL3.out, by have h1 := HO2.out.size; omega, (hb _ HBX.out (hgl X4.out)).trans X4.out, R4.out.same (fun k e => hb k (fun e2 => HKR.out k e e2) (own_blocks_lt R4.out e)), I4.out.same (fun k e => hb k (fun e2 => own_apart O4.out I4.out (by decide) k e2 e) (own_blocks_lt I4.out e))⟩
    · intro K L us W hK0 hL hd hR
      have e0 : us 0 = .pointer (some ⟨g, 0, none⟩) := hR.vals 0 (by decide) (all_on hd ⟨0, Ground.data⟩ (by simp) rfl)
      have hK := hid (fun v9 A9 h1 (h3 : v9 = .pointer (some ⟨g, 0, none⟩)) => hK0 v9 A9 W h1 (hR.pure (by decide) h3)); clear hK0
      clear hd
      simp only [putF]
      rw [hA, e0]
      go_frame
      go_wp2_with fail
      exact hK.out _ _ (by rw [hA]; simp only [putF]; rw [e0]; kernel_rfl) rfl
    · intro K L us W hK0 hL hd hR
      have e8 : us 8 = .pointer (some ⟨g, 0, none⟩) := hR.vals 8 (by decide) (all_on hd ⟨8, Ground.data⟩ (by simp) rfl)
      have hK := hid (fun v9 A9 h1 (h3 : v9 = .pointer (some ⟨g, 5, none⟩)) => hK0 v9 A9 W h1 (hR.pure (by decide) h3)); clear hK0
      clear hd
      simp only [putF]
      rw [hA, e8]
      go_frame
      go_wp2_with fail
      exact hK.out _ _ (by rw [hA]; simp only [putF]; rw [e8]; kernel_rfl) rfl
    · intro K L us W hK0 hL hd hR
      have e9 : us 9 = .pointer (some ⟨g, 5, none⟩) := hR.vals 9 (by decide) (all_on hd ⟨9, Ground.data⟩ (by simp) rfl)
      have hS := hR.at 2 (by decide) (.inr ⟨by decide, all_on hd ⟨7, Ground.data⟩ (by simp) rfl⟩) hL
      have hK := hid (fun v9 A9 W9 h1 (hS' : (fun kk vv WW => (match kk with | 0 => WW.heap[g]? = some (.cells #[.int .i64 m0, .int .i64 m1, .int .i64 m2, .int .i64 m3, .slice (some ⟨bk, 0, none⟩) n kc, .slice ra r rc, iv] 173) ∧ OwnF WW B (.slice ra r rc) Rl | 1 => WW.heap[g]? = some (.cells #[.int .i64 m0, .int .i64 m1, .int .i64 m2, .int .i64 m3, .slice (some ⟨bk, 0, none⟩) n kc, .slice ra r rc, iv] 173) ∧ OwnF WW B (.slice ra r rc) Rl ∧ (∃ q, vv 0 = .slice (some ⟨q, 0, none⟩) 1 1 ∧ WW.heap[q]? = some (.cells #[.int .i64 f.t, .int .i64 f.x, .int .i64 f.y, .int .i64 f.z, .int .i64 f.e, .int .i64 f.a, .int .i64 f.b, .int .i64 f.c, .int .i64 f.d, .int .i64 f.g] 55)) | 2 => WW.heap[g]? = some (.cells #[.int .i64 m0, .int .i64 m1, .int .i64 m2, .int .i64 m3, .slice (some ⟨bk, 0, none⟩) n kc, .slice ra r rc, iv] 173) ∧ OwnF WW B (vv 1) (Rl ++ [f]) ∧ (∀ b, Value.ownBlock (.slice (some ⟨bk, 0, none⟩) n kc) = some b → Value.ownBlock (vv 1) ≠ some b) | _ => WW.heap[g]? = some (.cells #[.int .i64 m0, .int .i64 m1, .int .i64 m2, .int .i64 m3, .slice (some ⟨bk, 0, none⟩) n kc, (vv 1), iv] 173) ∧ OwnF WW B (vv 1) (Rl ++ [f]) ∧ (∀ b, Value.ownBlock (.slice (some ⟨bk, 0, none⟩) n kc) = some b → Value.ownBlock (vv 1) ≠ some b)) ∧ Below B w WW ∧ V.heap.size ≤ WW.heap.size ∧ WW.heap[w.heap.size]? = some (.cells f.row.toArray 55) ∧ OwnF WW B (.slice (some ⟨bk, 0, none⟩) n kc) Kl ∧ OwnI2 WW B iv I) 3 (fun j => if j = 2 then v9 else selV [6, 7, 10] us j) W9) => hK0 v9 A9 W9 h1 (hR.next (by decide) 2 (by decide) (.inr ⟨by decide, all_on hd ⟨7, Ground.data⟩ (by simp) rfl⟩) hL hS' (fun _ => by intro j hj; rw [List.mem_singleton.1 hj]; exact all_on hd ⟨4, Ground.phase⟩ (by simp) rfl))); clear hK0
      obtain ⟨⟨hg4, ho4, hap4⟩, ⟨hB4, hz4, hx4, hr4, hi4⟩⟩ := hS
      obtain ⟨v7, e7⟩ : ∃ v, us 7 = v := ⟨_, rfl⟩
      have ho5 : OwnF W B (us 7) (Rl ++ [f]) := ho4
      have hap5 : (∀ b, Value.ownBlock (.slice (some ⟨bk, 0, none⟩) n kc) = some b → Value.ownBlock (us 7) ≠ some b) := hap4
      rw [e7] at ho5 hap5
      obtain ⟨a9, c9, e99⟩ := OwnR.slice ho5
      subst e99
      have G4 := hid hg4
      have O5 := hid ho5
      have AP5 := hid hap5
      clear ho4 ho5 hg4 hap4 hap5
      have B4 := hid hB4
      have X4 := hid hx4
      have R4 := hid hr4
      have I4 := hid hi4
      clear hB4 hx4 hr4 hi4
      have z1 : W.frozen? ⟨g, 5, none⟩ = false := by have hh := G4.out; simp [World.frozen?, hh]
      have z0 : W.cell? ⟨g, 5, none⟩ = some (.slice ra r rc) := (cell_row (j := 5) G4.out).trans rfl
      generalize hl9 : ((Rl ++ [f]).map Fx.row).length = n9 at *
      have HL9 := hid hl9
      clear hl9
      clear hd
      simp only [putF]
      rw [hA, e9, e7]
      go_frame
      go_wp2_with fail
      refine hK.out undef _ _ (by rw [hA]; simp only [putF]; rw [e9, e7]; kernel_rfl) ?_
      have C9 := ClV.putR G4.out HGB.out R4.out I4.out O5.out AP5.out
      refine ⟨⟨?_, ?_, ?_⟩, below_set B4.out HGB.out _, by simp; omega, (setCell_other (fun e => by have h1 := HBXG.out; omega)).trans X4.out, C9.k, C9.i⟩
      · show _ = some (Obj.cells #[.int .i64 m0, .int .i64 m1, .int .i64 m2, .int .i64 m3, .slice (some ⟨bk, 0, none⟩) n kc, (us 7), iv] 173)
        rw [e7]
        exact C9.hg
      · show OwnF _ B (us 7) (Rl ++ [f])
        rw [e7]
        exact C9.r
      · show (∀ b, Value.ownBlock (.slice (some ⟨bk, 0, none⟩) n kc) = some b → Value.ownBlock (us 7) ≠ some b)
        rw [e7]
        exact AP5.out
  case htS =>
    intro L us W5 hall hR
    have hS := hR.last (fun i hi => match i, hi with | 0, _ => hall 6 (by decide) | 1, _ => hall 7 (by decide) | 2, _ => hall 10 (by decide))
    have e0 : us 0 = .pointer (some ⟨g, 0, none⟩) := hR.vals 0 (by decide) (hall 0 (by decide))
    have e1 : us 1 = .pointer (some ⟨g, 0, none⟩) := hR.vals 1 (by decide) (hall 1 (by decide))
    have e2 : us 2 = .pointer (some ⟨g, 0, none⟩) := hR.vals 2 (by decide) (hall 2 (by decide))
    have e3 : us 3 = .pointer (some ⟨g, 5, none⟩) := hR.vals 3 (by decide) (hall 3 (by decide))
    have e4 : us 4 = .slice ra r rc := hR.vals 4 (by decide) (hall 4 (by decide))
    have e5 : us 5 = .agg #[.int .i64 f.t, .int .i64 f.x, .int .i64 f.y, .int .i64 f.z, .int .i64 f.e, .int .i64 f.a, .int .i64 f.b, .int .i64 f.c, .int .i64 f.d, .int .i64 f.g] := hR.vals 5 (by decide) (hall 5 (by decide))
    have e8 : us 8 = .pointer (some ⟨g, 0, none⟩) := hR.vals 8 (by decide) (hall 8 (by decide))
    have e9 : us 9 = .pointer (some ⟨g, 5, none⟩) := hR.vals 9 (by decide) (hall 9 (by decide))
    clear hR hall
    obtain ⟨⟨hg5, ho5, hap5⟩, hB5, _, hx5, hr5, hi5⟩ := hS
    obtain ⟨v6, e6⟩ : ∃ v, us 6 = v := ⟨_, rfl⟩
    obtain ⟨v7, e7⟩ : ∃ v, us 7 = v := ⟨_, rfl⟩
    have hg6 : W5.heap[g]? = some (.cells #[.int .i64 m0, .int .i64 m1, .int .i64 m2, .int .i64 m3, .slice (some ⟨bk, 0, none⟩) n kc, (us 7), iv] 173) := hg5
    have ho6 : OwnF W5 B (us 7) (Rl ++ [f]) := ho5
    have hap6 : (∀ b, Value.ownBlock (.slice (some ⟨bk, 0, none⟩) n kc) = some b → Value.ownBlock (us 7) ≠ some b) := hap5
    rw [e7] at hg6 ho6 hap6
    have C5 := hid (show ClV W5 B g m0 m1 m2 m3 Kl (Rl ++ [f]) I (.slice (some ⟨bk, 0, none⟩) n kc) v7 iv from ⟨hg6, HGB.out, hr5, ho6, hi5, hap6⟩)
    have B5 := hid hB5
    have X5 := hid hx5
    clear hg5 ho5 hB5 hr5 hi5 hg6 ho6 hap5 hap6 hx5
    simp only [putF]
    rw [hA, e0, e1, e2, e3, e4, e5, e8, e9, e6, e7]
    go_frame
    clear hA e6 e7 e0 e1 e2 e3 e4 e5 e8 e9
    obtain ⟨a7, c7, h7⟩ := OwnR.slice C5.out.r
    obtain ⟨r1, hr1⟩ : ∃ r1, r1 = r + 1 := ⟨_, rfl⟩
    rw [show ((Rl ++ [f]).map Fx.row).length = r1 by rw [hr1, List.length_map, List.length_append, List.length_singleton, HNR.out]] at h7
    subst h7
    have HR1 := hid hr1
    have hr1b : r1 ≤ 100001 := by omega
    clear hr1
    have c57 : W5.cell? ⟨g, 5, none⟩ = some (.slice a7 r1 c7) := C5.out.c5
    have hr9 : r1 = k + 3 := by have h1 := HR1.out; have h2 := HNR.out; omega
    have hk4 : (r1 : Int) - 3 = (k : Int) := by omega
    have d7 : decide ((k : Int) < 0) = false := decide_eq_false (by omega)
    have hka1 : k < r1 := by omega
    have hka2 : k + 1 < r1 := by omega
    have hka3 : k + 2 < r1 := by omega
    have hokf : ∀ p ∈ Rl ++ [f], p.ok = true := fun p hp => by rcases List.mem_append.1 hp with hp | hp; (· exact hokr p hp); (· rw [List.mem_singleton.1 hp]; exact hf)
    have HR9 := hid hr9
    clear hr9
    obtain ⟨b7, ha7, hrow7, hbl7⟩ := own_at C5.out.r hxa
    subst ha7
    have hca := row_of hrow7 hxa (k * 10) rfl
    have hcb := row_of hrow7 hxb ((k + 1) * 10) rfl
    have hcc := row_of hrow7 hxc ((k + 2) * 10) rfl
    have HN1 := hid (show ∀ W, Calls Try.prog 92 #[.agg #[.int .i64 xa.t, .int .i64 xa.x, .int .i64 xa.y, .int .i64 xa.z, .int .i64 xa.e, .int .i64 xa.a, .int .i64 xa.b, .int .i64 xa.c, .int .i64 xa.d, .int .i64 xa.g], .agg #[.int .i64 xb.t, .int .i64 xb.x, .int .i64 xb.y, .int .i64 xb.z, .int .i64 xb.e, .int .i64 xb.a, .int .i64 xb.b, .int .i64 xb.c, .int .i64 xb.d, .int .i64 xb.g], .agg #[.int .i64 m0, .int .i64 m1, .int .i64 m2, .int .i64 m3]] W fun r w' => r = .returned (.bool true) ∧ Below W.heap.size W w' from fun W => hn1 ▸ nearX_any xa xb m0 m1 m2 m3 W (hokf _ (List.mem_of_getElem? hxa)) (hokf _ (List.mem_of_getElem? hxb)) hm)
    have HN2 := hid (show ∀ W, Calls Try.prog 92 #[.agg #[.int .i64 xb.t, .int .i64 xb.x, .int .i64 xb.y, .int .i64 xb.z, .int .i64 xb.e, .int .i64 xb.a, .int .i64 xb.b, .int .i64 xb.c, .int .i64 xb.d, .int .i64 xb.g], .agg #[.int .i64 xc.t, .int .i64 xc.x, .int .i64 xc.y, .int .i64 xc.z, .int .i64 xc.e, .int .i64 xc.a, .int .i64 xc.b, .int .i64 xc.c, .int .i64 xc.d, .int .i64 xc.g], .agg #[.int .i64 m0, .int .i64 m1, .int .i64 m2, .int .i64 m3]] W fun r w' => r = .returned (.bool false) ∧ Below W.heap.size W w' from fun W => hn2 ▸ nearX_any xb xc m0 m1 m2 m3 W (hokf _ (List.mem_of_getElem? hxb)) (hokf _ (List.mem_of_getElem? hxc)) hm)
    have cm0 := fun d os => cell_regrown C5.out.c0 d os
    have cm1 := fun d os => cell_regrown C5.out.c1 d os
    have cm2 := fun d os => cell_regrown C5.out.c2 d os
    have cm3 := fun d os => cell_regrown C5.out.c3 d os
    have cm5 := fun d os => cell_regrown C5.out.c5 d os
    have pa0 := fun d os => cell_regrown (w := W5) (a := ⟨b7, k * 10, none⟩) (v := .int .i64 xa.t) (hca 0 (by decide)) d os
    have pa1 := fun d os => cell_regrown (w := W5) (a := ⟨b7, k * 10 + 1, none⟩) (v := .int .i64 xa.x) (hca 1 (by decide)) d os
    have pa2 := fun d os => cell_regrown (w := W5) (a := ⟨b7, k * 10 + 2, none⟩) (v := .int .i64 xa.y) (hca 2 (by decide)) d os
    have pa3 := fun d os => cell_regrown (w := W5) (a := ⟨b7, k * 10 + 3, none⟩) (v := .int .i64 xa.z) (hca 3 (by decide)) d os
    have pa4 := fun d os => cell_regrown (w := W5) (a := ⟨b7, k * 10 + 4, none⟩) (v := .int .i64 xa.e) (hca 4 (by decide)) d os
    have pa5 := fun d os => cell_regrown (w := W5) (a := ⟨b7, k * 10 + 5, none⟩) (v := .int .i64 xa.a) (hca 5 (by decide)) d os
    have pa6 := fun d os => cell_regrown (w := W5) (a := ⟨b7, k * 10 + 6, none⟩) (v := .int .i64 xa.b) (hca 6 (by decide)) d os
    have pa7 := fun d os => cell_regrown (w := W5) (a := ⟨b7, k * 10 + 7, none⟩) (v := .int .i64 xa.c) (hca 7 (by decide)) d os
    have pa8 := fun d os => cell_regrown (w := W5) (a := ⟨b7, k * 10 + 8, none⟩) (v := .int .i64 xa.d) (hca 8 (by decide)) d os
    have pa9 := fun d os => cell_regrown (w := W5) (a := ⟨b7, k * 10 + 9, none⟩) (v := .int .i64 xa.g) (hca 9 (by decide)) d os
    have pb0 := fun d os => cell_regrown (w := W5) (a := ⟨b7, (k + 1) * 10, none⟩) (v := .int .i64 xb.t) (hcb 0 (by decide)) d os
    have pb1 := fun d os => cell_regrown (w := W5) (a := ⟨b7, (k + 1) * 10 + 1, none⟩) (v := .int .i64 xb.x) (hcb 1 (by decide)) d os
    have pb2 := fun d os => cell_regrown (w := W5) (a := ⟨b7, (k + 1) * 10 + 2, none⟩) (v := .int .i64 xb.y) (hcb 2 (by decide)) d os
    have pb3 := fun d os => cell_regrown (w := W5) (a := ⟨b7, (k + 1) * 10 + 3, none⟩) (v := .int .i64 xb.z) (hcb 3 (by decide)) d os
    have pb4 := fun d os => cell_regrown (w := W5) (a := ⟨b7, (k + 1) * 10 + 4, none⟩) (v := .int .i64 xb.e) (hcb 4 (by decide)) d os
    have pb5 := fun d os => cell_regrown (w := W5) (a := ⟨b7, (k + 1) * 10 + 5, none⟩) (v := .int .i64 xb.a) (hcb 5 (by decide)) d os
    have pb6 := fun d os => cell_regrown (w := W5) (a := ⟨b7, (k + 1) * 10 + 6, none⟩) (v := .int .i64 xb.b) (hcb 6 (by decide)) d os
    have pb7 := fun d os => cell_regrown (w := W5) (a := ⟨b7, (k + 1) * 10 + 7, none⟩) (v := .int .i64 xb.c) (hcb 7 (by decide)) d os
    have pb8 := fun d os => cell_regrown (w := W5) (a := ⟨b7, (k + 1) * 10 + 8, none⟩) (v := .int .i64 xb.d) (hcb 8 (by decide)) d os
    have pb9 := fun d os => cell_regrown (w := W5) (a := ⟨b7, (k + 1) * 10 + 9, none⟩) (v := .int .i64 xb.g) (hcb 9 (by decide)) d os
    have pc0 := fun d os => cell_regrown (w := W5) (a := ⟨b7, (k + 2) * 10, none⟩) (v := .int .i64 xc.t) (hcc 0 (by decide)) d os
    have pc1 := fun d os => cell_regrown (w := W5) (a := ⟨b7, (k + 2) * 10 + 1, none⟩) (v := .int .i64 xc.x) (hcc 1 (by decide)) d os
    have pc2 := fun d os => cell_regrown (w := W5) (a := ⟨b7, (k + 2) * 10 + 2, none⟩) (v := .int .i64 xc.y) (hcc 2 (by decide)) d os
    have pc3 := fun d os => cell_regrown (w := W5) (a := ⟨b7, (k + 2) * 10 + 3, none⟩) (v := .int .i64 xc.z) (hcc 3 (by decide)) d os
    have pc4 := fun d os => cell_regrown (w := W5) (a := ⟨b7, (k + 2) * 10 + 4, none⟩) (v := .int .i64 xc.e) (hcc 4 (by decide)) d os
    have pc5 := fun d os => cell_regrown (w := W5) (a := ⟨b7, (k + 2) * 10 + 5, none⟩) (v := .int .i64 xc.a) (hcc 5 (by decide)) d os
    have pc6 := fun d os => cell_regrown (w := W5) (a := ⟨b7, (k + 2) * 10 + 6, none⟩) (v := .int .i64 xc.b) (hcc 6 (by decide)) d os
    have pc7 := fun d os => cell_regrown (w := W5) (a := ⟨b7, (k + 2) * 10 + 7, none⟩) (v := .int .i64 xc.c) (hcc 7 (by decide)) d os
    have pc8 := fun d os => cell_regrown (w := W5) (a := ⟨b7, (k + 2) * 10 + 8, none⟩) (v := .int .i64 xc.d) (hcc 8 (by decide)) d os
    have pc9 := fun d os => cell_regrown (w := W5) (a := ⟨b7, (k + 2) * 10 + 9, none⟩) (v := .int .i64 xc.g) (hcc 9 (by decide)) d os
    have HXA := hid hxa
    have HXB := hid hxb
    have HXC := hid hxc
    clear hrow7 hca hcb hcc hxa hxb hxc hokf
    go_wp2_with fail
    refine wp_region_quiet_below (by kernel_rfl) (by kernel_rfl) ?_
    repeat (first | go_big_quiet_step ((first | (go_at_call 92; with_reducible exact Calls.regrown_of (HN1.out _)) | (go_at_call 92; with_reducible exact Calls.regrown_of (HN2.out _)))) | quiet_step ((first | (go_at_call 92; with_reducible exact Calls.regrown_of (HN1.out _)) | (go_at_call 92; with_reducible exact Calls.regrown_of (HN2.out _)))))
    refine wpQuiet_nil ?_
    intro _ hw'
    obtain ⟨⟨dqV7, osV7⟩, hw2⟩ := hw'
    subst hw2
    have HQV7 := hid (below_regrown W5 dqV7 osV7)
    generalize Sort.grow (redrawn W5 dqV7) osV7 = V7 at HQV7 ⊢
    have hsV7 := HQV7.out.size
    clear cm0 cm1 cm2 cm3 cm5 pa0 pa1 pa2 pa3 pa4 pa5 pa6 pa7 pa8 pa9 pb0 pb1 pb2 pb3 pb4 pb5 pb6 pb7 pb8 pb9 pc0 pc1 pc2 pc3 pc4 pc5 pc6 pc7 pc8 pc9
    go_wp2_with fail
    (first | (refine bodyPost_ret (results_none rfl _ _ _) rfl ?_) | go_end0)
    exact ⟨rfl, ⟨_, _, _, C5.out.still HQV7.out⟩, B5.out.trans (HQV7.out.mono (by have h1 := B5.out.size; have h2 := HLT.out; have h3 := HGB.out; omega))⟩
set_option maxRecDepth 100000 in
set_option maxHeartbeats 3200000 in
/-- the three last ones that are put aside are near each other: they are kept -/
theorem take_jump (B g : Nat) (m0 m1 m2 m3 : Int) (Kl Rl : List Fx) (I : List (Int × Int)) (kv rv iv : Value) (f : Fx) (w : World) (h : ClV w B g m0 m1 m2 m3 Kl Rl I kv rv iv) (hn : I.length + Rl.length ≤ 100000) (hk : Kl.length ≤ 100000) (hf : f.ok = true) (hm : 0 ≤ m1 ∧ m1 ≤ 1000000) (hok : ∀ p ∈ Kl, p.ok = true) (h0 : 0 < Kl.length) (hkeep : keepG (nearB m1) Kl f = false) (xa xb xc : Fx) (k : Nat) (hk3 : Rl.length = k + 2) (hxa : (Rl ++ [f])[k]? = some xa) (hxb : (Rl ++ [f])[k + 1]? = some xb) (hxc : (Rl ++ [f])[k + 2]? = some xc) (hokr : ∀ p ∈ Rl, p.ok = true) (hn1 : nearB m1 xa xb = true) (hn2 : nearB m1 xb xc = true) :
    Calls Try.prog 121 #[.pointer (some ⟨g, 0, none⟩), .agg f.row.toArray] w fun r w' => r = .returned (.tuple #[]) ∧ Cl w' B g m0 m1 m2 m3 (Kl ++ [xa, xb, xc], [], I ++ offs (Rl.take k) ++ [(3, xa.t)]) ∧ Below B w w' := by
  have HLT := hid h.lt
  have HGB := hid h.hB
  have HKR := hid h.kr
  obtain ⟨ka, kc, hkv⟩ := OwnR.slice h.k
  rw [List.length_map] at hkv
  subst hkv
  obtain ⟨ra, rc, hrv⟩ := OwnR.slice h.r
  rw [List.length_map] at hrv
  subst hrv
  have H := hid h
  clear h
  obtain ⟨i0, hi, hz0, hz1, hz2⟩ := info_parts info55f
  have HI := hid hi
  have HZ0 := hid hz0
  have HZ1 := hid hz1
  have HZ2 := hid hz2
  clear hi hz0 hz1 hz2
  obtain ⟨n, hnn⟩ : ∃ n, n = Kl.length := ⟨_, rfl⟩
  obtain ⟨r, hrr⟩ : ∃ r, r = Rl.length := ⟨_, rfl⟩
  rw [← hnn] at H HKR hk
  rw [← hrr] at H HKR
  (try rw [← hrr] at hn)
  have HNA := hid hnn
  have HNR := hid hrr
  clear hnn hrr
  go_enter Try.func121, Try.ntmps121
  go_upto_region 1 with fail
  refine gen_world (fun W0 hW0 => ?_)
  have KB := hid (show W0.heap[w.heap.size]? = some (.cells f.row.toArray 55) by rw [hW0]; exact heap_alloc_at _ _ _ rfl)
  have HB0 := hid (show Below w.heap.size w W0 by rw [hW0]; exact (Below.refl _ _).alloc (Nat.le_refl _) _)
  clear hW0
  have HC := hid (H.out.still HB0.out)
  have HBB := hid (show Below B w W0 from HB0.out.mono (by have h1 := HLT.out; have h2 := HGB.out; omega))
  have hbx : w.heap.size < W0.heap.size := (Array.getElem?_eq_some_iff.1 KB.out).1
  have c4 : W0.cell? ⟨g, 4, none⟩ = some (.slice ka n kc) := HC.out.c4
  rw [← HNA.out] at h0
  have d0 : ((n : Int) == 0) = false := by simp; omega
  have hn0 : 0 < n := by omega
  have d1 : decide ((0 : Int) < (n : Int)) = true := decide_eq_true (by omega)
  obtain ⟨x, hx⟩ : ∃ x, Kl[n - 1]? = some x := ⟨_, List.getElem?_eq_getElem (by rw [← HNA.out]; omega)⟩
  have hnear : nearB m1 x f = false := by
    unfold keepG at hkeep
    rw [List.getLast?_eq_getElem?, ← HNA.out, hx] at hkeep
    exact hkeep
  have hxo := hok x (List.mem_of_getElem? hx)
  obtain ⟨bk, hka, hrow, hbl⟩ := own_at HC.out.k hx
  subst hka
  have hc := row_of hrow hx ((n - 1) * 10) rfl
  have HNQ := hid (show ∀ W, Calls Try.prog 92 #[.agg #[.int .i64 x.t, .int .i64 x.x, .int .i64 x.y, .int .i64 x.z, .int .i64 x.e, .int .i64 x.a, .int .i64 x.b, .int .i64 x.c, .int .i64 x.d, .int .i64 x.g], .agg #[.int .i64 f.t, .int .i64 f.x, .int .i64 f.y, .int .i64 f.z, .int .i64 f.e, .int .i64 f.a, .int .i64 f.b, .int .i64 f.c, .int .i64 f.d, .int .i64 f.g], .agg #[.int .i64 m0, .int .i64 m1, .int .i64 m2, .int .i64 m3]] W fun r w' => r = .returned (.bool false) ∧ Below W.heap.size W w' from fun W => hnear ▸ nearX_any x f m0 m1 m2 m3 W hxo hf hm)
  have cm0 := fun d os => cell_regrown HC.out.c0 d os
  have cm1 := fun d os => cell_regrown HC.out.c1 d os
  have cm2 := fun d os => cell_regrown HC.out.c2 d os
  have cm3 := fun d os => cell_regrown HC.out.c3 d os
  have cm4 := fun d os => cell_regrown HC.out.c4 d os
  have p0 := fun d os => cell_regrown (w := W0) (a := ⟨bk, (n - 1) * 10, none⟩) (v := .int .i64 x.t) (hc 0 (by decide)) d os
  have p1 := fun d os => cell_regrown (w := W0) (a := ⟨bk, (n - 1) * 10 + 1, none⟩) (v := .int .i64 x.x) (hc 1 (by decide)) d os
  have p2 := fun d os => cell_regrown (w := W0) (a := ⟨bk, (n - 1) * 10 + 2, none⟩) (v := .int .i64 x.y) (hc 2 (by decide)) d os
  have p3 := fun d os => cell_regrown (w := W0) (a := ⟨bk, (n - 1) * 10 + 3, none⟩) (v := .int .i64 x.z) (hc 3 (by decide)) d os
  have p4 := fun d os => cell_regrown (w := W0) (a := ⟨bk, (n - 1) * 10 + 4, none⟩) (v := .int .i64 x.e) (hc 4 (by decide)) d os
  have p5 := fun d os => cell_regrown (w := W0) (a := ⟨bk, (n - 1) * 10 + 5, none⟩) (v := .int .i64 x.a) (hc 5 (by decide)) d os
  have p6 := fun d os => cell_regrown (w := W0) (a := ⟨bk, (n - 1) * 10 + 6, none⟩) (v := .int .i64 x.b) (hc 6 (by decide)) d os
  have p7 := fun d os => cell_regrown (w := W0) (a := ⟨bk, (n - 1) * 10 + 7, none⟩) (v := .int .i64 x.c) (hc 7 (by decide)) d os
  have p8 := fun d os => cell_regrown (w := W0) (a := ⟨bk, (n - 1) * 10 + 8, none⟩) (v := .int .i64 x.d) (hc 8 (by decide)) d os
  have p9 := fun d os => cell_regrown (w := W0) (a := ⟨bk, (n - 1) * 10 + 9, none⟩) (v := .int .i64 x.g) (hc 9 (by decide)) d os
  have q0 := fun d os => cell_regrown (w := W0) (a := ⟨w.heap.size, 0, none⟩) (v := .int .i64 f.t) ((cell_row (j := 0) KB.out).trans rfl) d os
  have q1 := fun d os => cell_regrown (w := W0) (a := ⟨w.heap.size, 1, none⟩) (v := .int .i64 f.x) ((cell_row (j := 1) KB.out).trans rfl) d os
  have q2 := fun d os => cell_regrown (w := W0) (a := ⟨w.heap.size, 2, none⟩) (v := .int .i64 f.y) ((cell_row (j := 2) KB.out).trans rfl) d os
  have q3 := fun d os => cell_regrown (w := W0) (a := ⟨w.heap.size, 3, none⟩) (v := .int .i64 f.z) ((cell_row (j := 3) KB.out).trans rfl) d os
  have q4 := fun d os => cell_regrown (w := W0) (a := ⟨w.heap.size, 4, none⟩) (v := .int .i64 f.e) ((cell_row (j := 4) KB.out).trans rfl) d os
  have q5 := fun d os => cell_regrown (w := W0) (a := ⟨w.heap.size, 5, none⟩) (v := .int .i64 f.a) ((cell_row (j := 5) KB.out).trans rfl) d os
  have q6 := fun d os => cell_regrown (w := W0) (a := ⟨w.heap.size, 6, none⟩) (v := .int .i64 f.b) ((cell_row (j := 6) KB.out).trans rfl) d os
  have q7 := fun d os => cell_regrown (w := W0) (a := ⟨w.heap.size, 7, none⟩) (v := .int .i64 f.c) ((cell_row (j := 7) KB.out).trans rfl) d os
  have q8 := fun d os => cell_regrown (w := W0) (a := ⟨w.heap.size, 8, none⟩) (v := .int .i64 f.d) ((cell_row (j := 8) KB.out).trans rfl) d os
  have q9 := fun d os => cell_regrown (w := W0) (a := ⟨w.heap.size, 9, none⟩) (v := .int .i64 f.g) ((cell_row (j := 9) KB.out).trans rfl) d os
  clear hc hrow hx hnear hxo hkeep
  go_wp2_with fail
  refine wp_region_quiet_below (by kernel_rfl) (by kernel_rfl) ?_
  repeat (first | go_big_quiet_step ((go_at_call 92; with_reducible exact Calls.regrown_of (HNQ.out _))) | quiet_step ((go_at_call 92; with_reducible exact Calls.regrown_of (HNQ.out _))))
  refine wpQuiet_nil ?_
  intro _ hw'
  obtain ⟨⟨dqV, osV⟩, hw2⟩ := hw'
  subst hw2
  have HQV := hid (below_regrown W0 dqV osV)
  generalize Sort.grow (redrawn W0 dqV) osV = V at HQV ⊢
  have hsV := HQV.out.size
  clear cm0 cm1 cm2 cm3 cm4 p0 p1 p2 p3 p4 p5 p6 p7 p8 p9 q0 q1 q2 q3 q4 q5 q6 q7 q8 q9
  have HBV := hid (HBB.out.trans (HQV.out.mono (by have h1 := HLT.out; have h2 := HGB.out; have h3 := HB0.out.size; omega)))
  have HCV := hid (HC.out.still HQV.out)
  have KBV := hid (heap_still HQV.out KB.out)
  have hbv : w.heap.size < V.heap.size := (Array.getElem?_eq_some_iff.1 KBV.out).1
  have hbw := HB0.out.size
  have HBXL := hid (fun k (hk : (Value.slice (some ⟨bk, 0, none⟩) n kc).ownBlock = some k) => show k < w.heap.size from own_blocks_lt H.out.k hk)
  have HBXR := hid (fun k (hk : (Value.slice ra r rc).ownBlock = some k) => show k < w.heap.size from own_blocks_lt H.out.r hk)
  have HBXG := hid (show g < w.heap.size from HLT.out)
  clear HQV KB HC
  have KB := hid KBV.out
  have HBX := hid (show (Value.slice ra r rc).ownBlock ≠ some w.heap.size from fun e => by have := HBXR.out _ e; omega)
  clear KBV HBXL HBXR
  go_wp2_with fail
  refine gen_act (fun A0 hA => ?_)
  refine wp_region_by (by kernel_rfl) (by kernel_rfl) [some 42, some 43, some 44, some 45, some 46, some 47, some 48, some 49, some 50, some 51, none] rfl (by decide) (StR (fun j => ([.pointer (some ⟨g, 0, none⟩), .pointer (some ⟨g, 0, none⟩), .pointer (some ⟨g, 0, none⟩), .pointer (some ⟨g, 5, none⟩), .slice ra r rc, .agg #[.int .i64 f.t, .int .i64 f.x, .int .i64 f.y, .int .i64 f.z, .int .i64 f.e, .int .i64 f.a, .int .i64 f.b, .int .i64 f.c, .int .i64 f.d, .int .i64 f.g], undef, undef, .pointer (some ⟨g, 0, none⟩), .pointer (some ⟨g, 5, none⟩), undef] : List Value).getD j undef) [6, 7, 10] [4] (fun kk vv WW => (match kk with | 0 => WW.heap[g]? = some (.cells #[.int .i64 m0, .int .i64 m1, .int .i64 m2, .int .i64 m3, .slice (some ⟨bk, 0, none⟩) n kc, .slice ra r rc, iv] 173) ∧ OwnF WW B (.slice ra r rc) Rl | 1 => WW.heap[g]? = some (.cells #[.int .i64 m0, .int .i64 m1, .int .i64 m2, .int .i64 m3, .slice (some ⟨bk, 0, none⟩) n kc, .slice ra r rc, iv] 173) ∧ OwnF WW B (.slice ra r rc) Rl ∧ (∃ q, vv 0 = .slice (some ⟨q, 0, none⟩) 1 1 ∧ WW.heap[q]? = some (.cells #[.int .i64 f.t, .int .i64 f.x, .int .i64 f.y, .int .i64 f.z, .int .i64 f.e, .int .i64 f.a, .int .i64 f.b, .int .i64 f.c, .int .i64 f.d, .int .i64 f.g] 55)) | 2 => WW.heap[g]? = some (.cells #[.int .i64 m0, .int .i64 m1, .int .i64 m2, .int .i64 m3, .slice (some ⟨bk, 0, none⟩) n kc, .slice ra r rc, iv] 173) ∧ OwnF WW B (vv 1) (Rl ++ [f]) ∧ (∀ b, Value.ownBlock (.slice (some ⟨bk, 0, none⟩) n kc) = some b → Value.ownBlock (vv 1) ≠ some b) | _ => WW.heap[g]? = some (.cells #[.int .i64 m0, .int .i64 m1, .int .i64 m2, .int .i64 m3, .slice (some ⟨bk, 0, none⟩) n kc, (vv 1), iv] 173) ∧ OwnF WW B (vv 1) (Rl ++ [f]) ∧ (∀ b, Value.ownBlock (.slice (some ⟨bk, 0, none⟩) n kc) = some b → Value.ownBlock (vv 1) ≠ some b)) ∧ Below B w WW ∧ V.heap.size ≤ WW.heap.size ∧ WW.heap[w.heap.size]? = some (.cells f.row.toArray 55) ∧ OwnF WW B (.slice (some ⟨bk, 0, none⟩) n kc) Kl ∧ OwnI2 WW B iv I)) (selfF A0 _) (putF_self A0 _)
    (StR.start ⟨⟨(HCV.out.still (Below.refl _ _).drew).hg, (HCV.out.still (Below.refl _ _).drew).r⟩, HBV.out.drew, Nat.le_refl _, heap_still (Below.refl _ _).drew KB.out, (HCV.out.still (Below.refl _ _).drew).k, (HCV.out.still (Below.refl _ _).drew).i⟩ (fun _ => rfl)) ?hsS ?htS
  case hsS =>
    refine ⟨?_, ?_, ?_, ?_, ?_, ?_, ?_, ?_, ?_, ?_, ?_, trivial⟩
    · intro K L us W hK0 hL hd hR
      have hK := hid (fun v9 A9 h1 (h3 : v9 = .pointer (some ⟨g, 0, none⟩)) => hK0 v9 A9 W h1 (hR.pure (by decide) h3)); clear hK0
      clear hd
      simp only [putF]
      rw [hA]
      go_frame
      go_wp2_with fail
      exact hK.out _ _ (by rw [hA]; simp only [putF]; kernel_rfl) rfl
    · intro K L us W hK0 hL hd hR
      have hK := hid (fun v9 A9 h1 (h3 : v9 = .pointer (some ⟨g, 0, none⟩)) => hK0 v9 A9 W h1 (hR.pure (by decide) h3)); clear hK0
      clear hd
      simp only [putF]
      rw [hA]
      go_frame
      go_wp2_with fail
      exact hK.out _ _ (by rw [hA]; simp only [putF]; kernel_rfl) rfl
    · intro K L us W hK0 hL hd hR
      have e1 : us 1 = .pointer (some ⟨g, 0, none⟩) := hR.vals 1 (by decide) (all_on hd ⟨1, Ground.data⟩ (by simp) rfl)
      have hK := hid (fun v9 A9 h1 (h3 : v9 = .pointer (some ⟨g, 0, none⟩)) => hK0 v9 A9 W h1 (hR.pure (by decide) h3)); clear hK0
      clear hd
      simp only [putF]
      rw [hA, e1]
      go_frame
      go_wp2_with fail
      exact hK.out _ _ (by rw [hA]; simp only [putF]; rw [e1]; kernel_rfl) rfl
    · intro K L us W hK0 hL hd hR
      have e2 : us 2 = .pointer (some ⟨g, 0, none⟩) := hR.vals 2 (by decide) (all_on hd ⟨2, Ground.data⟩ (by simp) rfl)
      have hK := hid (fun v9 A9 h1 (h3 : v9 = .pointer (some ⟨g, 5, none⟩)) => hK0 v9 A9 W h1 (hR.pure (by decide) h3)); clear hK0
      clear hd
      simp only [putF]
      rw [hA, e2]
      go_frame
      go_wp2_with fail
      exact hK.out _ _ (by rw [hA]; simp only [putF]; rw [e2]; kernel_rfl) rfl
    · intro K L us W hK0 hL hd hR
      have e3 : us 3 = .pointer (some ⟨g, 5, none⟩) := hR.vals 3 (by decide) (all_on hd ⟨3, Ground.data⟩ (by simp) rfl)
      have hK := hid (fun v9 A9 h1 (h3 : v9 = .slice ra r rc) => hK0 v9 A9 W h1 (hR.pure (by decide) h3)); clear hK0
      have c0 : W.cell? ⟨g, 5, none⟩ = some (.slice ra r rc) := by obtain ⟨k9, hk9, hS9⟩ := hR.early (j := 4) (by decide) hL (by decide); match k9, hk9, hS9 with | 0, _, hS9 => exact (cell_row (j := 5) hS9.1.1).trans rfl | 1, _, hS9 => exact (cell_row (j := 5) hS9.1.1).trans rfl | 2, _, hS9 => exact (cell_row (j := 5) hS9.1.1).trans rfl
      clear hd
      simp only [putF]
      rw [hA, e3]
      go_frame
      go_wp2_with fail
      exact hK.out _ _ (by rw [hA]; simp only [putF]; rw [e3]; kernel_rfl) rfl
    · intro K L us W hK0 hL hd hR
      have hK := hid (fun v9 A9 h1 (h3 : v9 = .agg #[.int .i64 f.t, .int .i64 f.x, .int .i64 f.y, .int .i64 f.z, .int .i64 f.e, .int .i64 f.a, .int .i64 f.b, .int .i64 f.c, .int .i64 f.d, .int .i64 f.g]) => hK0 v9 A9 W h1 (hR.pure (by decide) h3)); clear hK0
      have hx9 : W.heap[w.heap.size]? = some (.cells f.row.toArray 55) := by obtain ⟨_, _, _, hSq⟩ := hR.st; exact hSq.2.2.2.1
      clear hd
      simp only [putF]
      rw [hA]
      go_frame
      go_wp2_with (refine wpList_load_at rfl 55 (.tmp 3) rfl rfl hx9 Try.underlying55 rfl size55f (row_arr f) ?_)
      exact hK.out _ _ (by rw [hA]; simp only [putF]; kernel_rfl) rfl
    · intro K L us W hK0 hL hd hR
      have e5 : us 5 = .agg #[.int .i64 f.t, .int .i64 f.x, .int .i64 f.y, .int .i64 f.z, .int .i64 f.e, .int .i64 f.a, .int .i64 f.b, .int .i64 f.c, .int .i64 f.d, .int .i64 f.g] := hR.vals 5 (by decide) (all_on hd ⟨5, Ground.data⟩ (by simp) rfl)
      have hS := hR.at 0 (by decide) (.inl rfl) hL
      have hK := hid (fun v9 A9 W9 h1 (hS' : (fun kk vv WW => (match kk with | 0 => WW.heap[g]? = some (.cells #[.int .i64 m0, .int .i64 m1, .int .i64 m2, .int .i64 m3, .slice (some ⟨bk, 0, none⟩) n kc, .slice ra r rc, iv] 173) ∧ OwnF WW B (.slice ra r rc) Rl | 1 => WW.heap[g]? = some (.cells #[.int .i64 m0, .int .i64 m1, .int .i64 m2, .int .i64 m3, .slice (some ⟨bk, 0, none⟩) n kc, .slice ra r rc, iv] 173) ∧ OwnF WW B (.slice ra r rc) Rl ∧ (∃ q, vv 0 = .slice (some ⟨q, 0, none⟩) 1 1 ∧ WW.heap[q]? = some (.cells #[.int .i64 f.t, .int .i64 f.x, .int .i64 f.y, .int .i64 f.z, .int .i64 f.e, .int .i64 f.a, .int .i64 f.b, .int .i64 f.c, .int .i64 f.d, .int .i64 f.g] 55)) | 2 => WW.heap[g]? = some (.cells #[.int .i64 m0, .int .i64 m1, .int .i64 m2, .int .i64 m3, .slice (some ⟨bk, 0, none⟩) n kc, .slice ra r rc, iv] 173) ∧ OwnF WW B (vv 1) (Rl ++ [f]) ∧ (∀ b, Value.ownBlock (.slice (some ⟨bk, 0, none⟩) n kc) = some b → Value.ownBlock (vv 1) ≠ some b) | _ => WW.heap[g]? = some (.cells #[.int .i64 m0, .int .i64 m1, .int .i64 m2, .int .i64 m3, .slice (some ⟨bk, 0, none⟩) n kc, (vv 1), iv] 173) ∧ OwnF WW B (vv 1) (Rl ++ [f]) ∧ (∀ b, Value.ownBlock (.slice (some ⟨bk, 0, none⟩) n kc) = some b → Value.ownBlock (vv 1) ≠ some b)) ∧ Below B w WW ∧ V.heap.size ≤ WW.heap.size ∧ WW.heap[w.heap.size]? = some (.cells f.row.toArray 55) ∧ OwnF WW B (.slice (some ⟨bk, 0, none⟩) n kc) Kl ∧ OwnI2 WW B iv I) 1 (fun j => if j = 0 then v9 else selV [6, 7, 10] us j) W9) => hK0 v9 A9 W9 h1 (hR.next (by decide) 0 (by decide) (.inl rfl) hL hS' (fun h => absurd h (by decide)))); clear hK0
      obtain ⟨⟨hg4, ho4⟩, ⟨hB4, hz4, hx4, hr4, hi4⟩⟩ := hS
      have G4 := hid hg4
      have O4 := hid ho4
      clear hg4 ho4
      have B4 := hid hB4
      have X4 := hid hx4
      have R4 := hid hr4
      have I4 := hid hi4
      clear hB4 hx4 hr4 hi4
      clear hd
      simp only [putF]
      rw [hA, e5]
      go_frame
      go_wp2_with fail
      refine hK.out (.slice (some ⟨W.heap.size, 0, none⟩) 1 1) _ _ (by rw [hA]; simp only [putF]; rw [e5]; kernel_rfl) ?_
      exact ⟨⟨heap_still ((Below.refl W.heap.size W).alloc (Nat.le_refl _) (.cells #[.int .i64 f.t, .int .i64 f.x, .int .i64 f.y, .int .i64 f.z, .int .i64 f.e, .int .i64 f.a, .int .i64 f.b, .int .i64 f.c, .int .i64 f.d, .int .i64 f.g] 55)) G4.out, O4.out.grow ((Below.refl W.heap.size W).alloc (Nat.le_refl _) (.cells #[.int .i64 f.t, .int .i64 f.x, .int .i64 f.y, .int .i64 f.z, .int .i64 f.e, .int .i64 f.a, .int .i64 f.b, .int .i64 f.c, .int .i64 f.d, .int .i64 f.g] 55)), ⟨W.heap.size, rfl, heap_alloc_at _ _ _ rfl⟩⟩, B4.out.trans (((Below.refl W.heap.size W).alloc (Nat.le_refl _) (.cells #[.int .i64 f.t, .int .i64 f.x, .int .i64 f.y, .int .i64 f.z, .int .i64 f.e, .int .i64 f.a, .int .i64 f.b, .int .i64 f.c, .int .i64 f.d, .int .i64 f.g] 55)).mono (by have h1 := B4.out.size; have h2 := HLT.out; have h3 := HGB.out; omega)), by simp; omega, heap_still ((Below.refl W.heap.size W).alloc (Nat.le_refl _) (.cells #[.int .i64 f.t, .int .i64 f.x, .int .i64 f.y, .int .i64 f.z, .int .i64 f.e, .int .i64 f.a, .int .i64 f.b, .int .i64 f.c, .int .i64 f.d, .int .i64 f.g] 55)) X4.out, R4.out.grow ((Below.refl W.heap.size W).alloc (Nat.le_refl _) (.cells #[.int .i64 f.t, .int .i64 f.x, .int .i64 f.y, .int .i64 f.z, .int .i64 f.e, .int .i64 f.a, .int .i64 f.b, .int .i64 f.c, .int .i64 f.d, .int .i64 f.g] 55)), I4.out.grow ((Below.refl W.heap.size W).alloc (Nat.le_refl _) (.cells #[.int .i64 f.t, .int .i64 f.x, .int .i64 f.y, .int .i64 f.z, .int .i64 f.e, .int .i64 f.a, .int .i64 f.b, .int .i64 f.c, .int .i64 f.d, .int .i64 f.g] 55))⟩
    · intro K L us W hK0 hL hd hR
      have e4 : us 4 = .slice ra r rc := hR.vals 4 (by decide) (all_on hd ⟨4, Ground.data⟩ (by simp) rfl)
      have hS := hR.at 1 (by decide) (.inr ⟨by decide, all_on hd ⟨6, Ground.data⟩ (by simp) rfl⟩) hL
      have hK := hid (fun v9 A9 W9 h1 (hS' : (fun kk vv WW => (match kk with | 0 => WW.heap[g]? = some (.cells #[.int .i64 m0, .int .i64 m1, .int .i64 m2, .int .i64 m3, .slice (some ⟨bk, 0, none⟩) n kc, .slice ra r rc, iv] 173) ∧ OwnF WW B (.slice ra r rc) Rl | 1 => WW.heap[g]? = some (.cells #[.int .i64 m0, .int .i64 m1, .int .i64 m2, .int .i64 m3, .slice (some ⟨bk, 0, none⟩) n kc, .slice ra r rc, iv] 173) ∧ OwnF WW B (.slice ra r rc) Rl ∧ (∃ q, vv 0 = .slice (some ⟨q, 0, none⟩) 1 1 ∧ WW.heap[q]? = some (.cells #[.int .i64 f.t, .int .i64 f.x, .int .i64 f.y, .int .i64 f.z, .int .i64 f.e, .int .i64 f.a, .int .i64 f.b, .int .i64 f.c, .int .i64 f.d, .int .i64 f.g] 55)) | 2 => WW.heap[g]? = some (.cells #[.int .i64 m0, .int .i64 m1, .int .i64 m2, .int .i64 m3, .slice (some ⟨bk, 0, none⟩) n kc, .slice ra r rc, iv] 173) ∧ OwnF WW B (vv 1) (Rl ++ [f]) ∧ (∀ b, Value.ownBlock (.slice (some ⟨bk, 0, none⟩) n kc) = some b → Value.ownBlock (vv 1) ≠ some b) | _ => WW.heap[g]? = some (.cells #[.int .i64 m0, .int .i64 m1, .int .i64 m2, .int .i64 m3, .slice (some ⟨bk, 0, none⟩) n kc, (vv 1), iv] 173) ∧ OwnF WW B (vv 1) (Rl ++ [f]) ∧ (∀ b, Value.ownBlock (.slice (some ⟨bk, 0, none⟩) n kc) = some b → Value.ownBlock (vv 1) ≠ some b)) ∧ Below B w WW ∧ V.heap.size ≤ WW.heap.size ∧ WW.heap[w.heap.size]? = some (.cells f.row.toArray 55) ∧ OwnF WW B (.slice (some ⟨bk, 0, none⟩) n kc) Kl ∧ OwnI2 WW B iv I) 2 (fun j => if j = 1 then v9 else selV [6, 7, 10] us j) W9) => hK0 v9 A9 W9 h1 (hR.next (by decide) 1 (by decide) (.inr ⟨by decide, all_on hd ⟨6, Ground.data⟩ (by simp) rfl⟩) hL hS' (fun h => absurd h (by decide)))); clear hK0
      obtain ⟨⟨hg4, ho4, ⟨q, hq, hq4⟩⟩, ⟨hB4, hz4, hx4, hr4, hi4⟩⟩ := hS
      have e6 : us 6 = .slice (some ⟨q, 0, none⟩) 1 1 := hq
      have G4 := hid hg4
      have O4 := hid ho4
      have Q4 := hid hq4
      clear hg4 ho4 hq hq4
      have B4 := hid hB4
      have X4 := hid hx4
      have R4 := hid hr4
      have I4 := hid hi4
      clear hB4 hx4 hr4 hi4
      have HL1 := hid (show (Rl.map Fx.row).length + [f.row].length ≤ maxLen by rw [List.length_map, ← HNR.out, List.length_singleton]; unfold maxLen; omega)
      have HL2 := hid (show ((Rl.map Fx.row).length + [f.row].length) * 80 ≤ 140737488355328 by rw [List.length_map, ← HNR.out, List.length_singleton]; omega)
      have HL3 := hid (show B ≤ W.heap.size by have h1 := B4.out.size; have h2 := HLT.out; have h3 := HGB.out; omega)
      clear hd
      simp only [putF]
      rw [hA, e4, e6]
      go_frame
      go_wp2_with (first | (at_builtin; go_loud (refine wpList_append_rowsR rfl (.tmp 46) (.tmp 48) 106 rfl B 55 i0 _ 10 80 Try.underlying106 HI.out HZ0.out HZ1.out HZ2.out rfl (by decide) _ (Rl.map Fx.row) [f.row] rfl O4.out q 0 1 1 rfl rfl (rows_one (f := f) Q4.out) (rows_wide [f]) HL1.out HL2.out HL3.out ?_; intro v7 w7 ho1 ho2 ho3; have HO1 := hid ho1; have HO2 := hid ho2; have HO3 := hid ho3; clear ho1 ho2 ho3)))
      refine hK.out v7 _ _ (by rw [hA]; simp only [putF]; rw [e4, e6]; kernel_rfl) ?_
      have hb : ∀ k, (Value.ownBlock (.slice ra r rc)) ≠ some k → k < W.heap.size → w7.heap[k]? = W.heap[k]? := fun k hk hlt => HO2.out.block k hlt (fun e => hk e.symm)
      have hgl : ∀ {k : Nat} {x : Obj}, W.heap[k]? = some x → k < W.heap.size := fun h => (Array.getElem?_eq_some_iff.1 h).1
      refine ⟨⟨(hb g (own_not O4.out G4.out (by decide)) (hgl G4.out)).trans G4.out, by have h1 := HO1.out; unfold OwnF; rw [List.map_append]; exact h1, fun b hb hb2 => by have hb3 : Value.ownBlock v7 = some b := hb2; rcases HO3.out with e | e; (· exact HKR.out b hb (e ▸ hb3)); (· rw [e] at hb3; injection hb3 with hb3; subst hb3; have := own_blocks_lt R4.out hb; omega)⟩, below_grown B4.out HO2.out (fun k hk => OwnR.ownBlock O4.out k hk) HL3.out, by have h1 := HO2.out.size; omega, (hb _ HBX.out (hgl X4.out)).trans X4.out, R4.out.same (fun k e => hb k (fun e2 => HKR.out k e e2) (own_blocks_lt R4.out e)), I4.out.same (fun k e => hb k (fun e2 => own_apart O4.out I4.out (by decide) k e2 e) (own_blocks_lt I4.out e))⟩
    · intro K L us W hK0 hL hd hR
      have e0 : us 0 = .pointer (some ⟨g, 0, none⟩) := hR.vals 0 (by decide) (all_on hd ⟨0, Ground.data⟩ (by simp) rfl)
      have hK := hid (fun v9 A9 h1 (h3 : v9 = .pointer (some ⟨g, 0, none⟩)) => hK0 v9 A9 W h1 (hR.pure (by decide) h3)); clear hK0
      clear hd
      simp only [putF]
      rw [hA, e0]
      go_frame
      go_wp2_with fail
      exact hK.out _ _ (by rw [hA]; simp only [putF]; rw [e0]; kernel_rfl) rfl
    · intro K L us W hK0 hL hd hR
      have e8 : us 8 = .pointer (some ⟨g, 0, none⟩) := hR.vals 8 (by decide) (all_on hd ⟨8, Ground.data⟩ (by simp) rfl)
      have hK := hid (fun v9 A9 h1 (h3 : v9 = .pointer (some ⟨g, 5, none⟩)) => hK0 v9 A9 W h1 (hR.pure (by decide) h3)); clear hK0
      clear hd
      simp only [putF]
      rw [hA, e8]
      go_frame
      go_wp2_with fail
      exact hK.out _ _ (by rw [hA]; simp only [putF]; rw [e8]; kernel_rfl) rfl
    · intro K L us W hK0 hL hd hR
      have e9 : us 9 = .pointer (some ⟨g, 5, none⟩) := hR.vals 9 (by decide) (all_on hd ⟨9, Ground.data⟩ (by simp) rfl)
      have hS := hR.at 2 (by decide) (.inr ⟨by decide, all_on hd ⟨7, Ground.data⟩ (by simp) rfl⟩) hL
      have hK := hid (fun v9 A9 W9 h1 (hS' : (fun kk vv WW => (match kk with | 0 => WW.heap[g]? = some (.cells #[.int .i64 m0, .int .i64 m1, .int .i64 m2, .int .i64 m3, .slice (some ⟨bk, 0, none⟩) n kc, .slice ra r rc, iv] 173) ∧ OwnF WW B (.slice ra r rc) Rl | 1 => WW.heap[g]? = some (.cells #[.int .i64 m0, .int .i64 m1, .int .i64 m2, .int .i64 m3, .slice (some ⟨bk, 0, none⟩) n kc, .slice ra r rc, iv] 173) ∧ OwnF WW B (.slice ra r rc) Rl ∧ (∃ q, vv 0 = .slice (some ⟨q, 0, none⟩) 1 1 ∧ WW.heap[q]? = some (.cells #[.int .i64 f.t, .int .i64 f.x, .int .i64 f.y, .int .i64 f.z, .int .i64 f.e, .int .i64 f.a, .int .i64 f.b, .int .i64 f.c, .int .i64 f.d, .int .i64 f.g] 55)) | 2 => WW.heap[g]? = some (.cells #[.int .i64 m0, .int .i64 m1, .int .i64 m2, .int .i64 m3, .slice (some ⟨bk, 0, none⟩) n kc, .slice ra r rc, iv] 173) ∧ OwnF WW B (vv 1) (Rl ++ [f]) ∧ (∀ b, Value.ownBlock (.slice (some ⟨bk, 0, none⟩) n kc) = some b → Value.ownBlock (vv 1) ≠ some b) | _ => WW.heap[g]? = some (.cells #[.int .i64 m0, .int .i64 m1, .int .i64 m2, .int .i64 m3, .slice (some ⟨bk, 0, none⟩) n kc, (vv 1), iv] 173) ∧ OwnF WW B (vv 1) (Rl ++ [f]) ∧ (∀ b, Value.ownBlock (.slice (some ⟨bk, 0, none⟩) n kc) = some b → Value.ownBlock (vv 1) ≠ some b)) ∧ Below B w WW ∧ V.heap.size ≤ WW.heap.size ∧ WW.heap[w.heap.size]? = some (.cells f.row.toArray 55) ∧ OwnF WW B (.slice (some ⟨bk, 0, none⟩) n kc) Kl ∧ OwnI2 WW B iv I) 3 (fun j => if j = 2 then v9 else selV [6, 7, 10] us j) W9) => hK0 v9 A9 W9 h1 (hR.next (by decide) 2 (by decide) (.inr ⟨by decide, all_on hd ⟨7, Ground.data⟩ (by simp) rfl⟩) hL hS' (fun _ => by intro j hj; rw [List.mem_singleton.1 hj]; exact all_on hd ⟨4, Ground.phase⟩ (by simp) rfl))); clear hK0
      obtain ⟨⟨hg4, ho4, hap4⟩, ⟨hB4, hz4, hx4, hr4, hi4⟩⟩ := hS
      obtain ⟨v7, e7⟩ : ∃ v, us 7 = v := ⟨_, rfl⟩
      have ho5 : OwnF W B (us 7) (Rl ++ [f]) := ho4
      have hap5 : (∀ b, Value.ownBlock (.slice (some ⟨bk, 0, none⟩) n kc) = some b → Value.ownBlock (us 7) ≠ some b) := hap4
      rw [e7] at ho5 hap5
      obtain ⟨a9, c9, e99⟩ := OwnR.slice ho5
      subst e99
      have G4 := hid hg4
      have O5 := hid ho5
      have AP5 := hid hap5
      clear ho4 ho5 hg4 hap4 hap5
      have B4 := hid hB4
      have X4 := hid hx4
      have R4 := hid hr4
      have I4 := hid hi4
      clear hB4 hx4 hr4 hi4
      have z1 : W.frozen? ⟨g, 5, none⟩ = false := by have hh := G4.out; simp [World.frozen?, hh]
      have z0 : W.cell? ⟨g, 5, none⟩ = some (.slice ra r rc) := (cell_row (j := 5) G4.out).trans rfl
      generalize hl9 : ((Rl ++ [f]).map Fx.row).length = n9 at *
      have HL9 := hid hl9
      clear hl9
      clear hd
      simp only [putF]
      rw [hA, e9, e7]
      go_frame
      go_wp2_with fail
      refine hK.out undef _ _ (by rw [hA]; simp only [putF]; rw [e9, e7]; kernel_rfl) ?_
      have C9 := ClV.putR G4.out HGB.out R4.out I4.out O5.out AP5.out
      refine ⟨⟨?_, ?_, ?_⟩, below_set B4.out HGB.out _, by simp; omega, (setCell_other (fun e => by have h1 := HBXG.out; omega)).trans X4.out, C9.k, C9.i⟩
      · show _ = some (Obj.cells #[.int .i64 m0, .int .i64 m1, .int .i64 m2, .int .i64 m3, .slice (some ⟨bk, 0, none⟩) n kc, (us 7), iv] 173)
        rw [e7]
        exact C9.hg
      · show OwnF _ B (us 7) (Rl ++ [f])
        rw [e7]
        exact C9.r
      · show (∀ b, Value.ownBlock (.slice (some ⟨bk, 0, none⟩) n kc) = some b → Value.ownBlock (us 7) ≠ some b)
        rw [e7]
        exact AP5.out
  case htS =>
    intro L us W5 hall hR
    have hS := hR.last (fun i hi => match i, hi with | 0, _ => hall 6 (by decide) | 1, _ => hall 7 (by decide) | 2, _ => hall 10 (by decide))
    have e0 : us 0 = .pointer (some ⟨g, 0, none⟩) := hR.vals 0 (by decide) (hall 0 (by decide))
    have e1 : us 1 = .pointer (some ⟨g, 0, none⟩) := hR.vals 1 (by decide) (hall 1 (by decide))
    have e2 : us 2 = .pointer (some ⟨g, 0, none⟩) := hR.vals 2 (by decide) (hall 2 (by decide))
    have e3 : us 3 = .pointer (some ⟨g, 5, none⟩) := hR.vals 3 (by decide) (hall 3 (by decide))
    have e4 : us 4 = .slice ra r rc := hR.vals 4 (by decide) (hall 4 (by decide))
    have e5 : us 5 = .agg #[.int .i64 f.t, .int .i64 f.x, .int .i64 f.y, .int .i64 f.z, .int .i64 f.e, .int .i64 f.a, .int .i64 f.b, .int .i64 f.c, .int .i64 f.d, .int .i64 f.g] := hR.vals 5 (by decide) (hall 5 (by decide))
    have e8 : us 8 = .pointer (some ⟨g, 0, none⟩) := hR.vals 8 (by decide) (hall 8 (by decide))
    have e9 : us 9 = .pointer (some ⟨g, 5, none⟩) := hR.vals 9 (by decide) (hall 9 (by decide))
    clear hR hall
    obtain ⟨⟨hg5, ho5, hap5⟩, hB5, _, hx5, hr5, hi5⟩ := hS
    obtain ⟨v6, e6⟩ : ∃ v, us 6 = v := ⟨_, rfl⟩
    obtain ⟨v7, e7⟩ : ∃ v, us 7 = v := ⟨_, rfl⟩
    have hg6 : W5.heap[g]? = some (.cells #[.int .i64 m0, .int .i64 m1, .int .i64 m2, .int .i64 m3, .slice (some ⟨bk, 0, none⟩) n kc, (us 7), iv] 173) := hg5
    have ho6 : OwnF W5 B (us 7) (Rl ++ [f]) := ho5
    have hap6 : (∀ b, Value.ownBlock (.slice (some ⟨bk, 0, none⟩) n kc) = some b → Value.ownBlock (us 7) ≠ some b) := hap5
    rw [e7] at hg6 ho6 hap6
    have C5 := hid (show ClV W5 B g m0 m1 m2 m3 Kl (Rl ++ [f]) I (.slice (some ⟨bk, 0, none⟩) n kc) v7 iv from ⟨hg6, HGB.out, hr5, ho6, hi5, hap6⟩)
    have B5 := hid hB5
    have X5 := hid hx5
    clear hg5 ho5 hB5 hr5 hi5 hg6 ho6 hap5 hap6 hx5
    simp only [putF]
    rw [hA, e0, e1, e2, e3, e4, e5, e8, e9, e6, e7]
    go_frame
    clear hA e6 e7 e0 e1 e2 e3 e4 e5 e8 e9
    obtain ⟨a7, c7, h7⟩ := OwnR.slice C5.out.r
    obtain ⟨r1, hr1⟩ : ∃ r1, r1 = r + 1 := ⟨_, rfl⟩
    rw [show ((Rl ++ [f]).map Fx.row).length = r1 by rw [hr1, List.length_map, List.length_append, List.length_singleton, HNR.out]] at h7
    subst h7
    have HR1 := hid hr1
    have hr1b : r1 ≤ 100001 := by omega
    clear hr1
    have c57 : W5.cell? ⟨g, 5, none⟩ = some (.slice a7 r1 c7) := C5.out.c5
    have hr9 : r1 = k + 3 := by have h1 := HR1.out; have h2 := HNR.out; omega
    have hk4 : (r1 : Int) - 3 = (k : Int) := by omega
    have d7 : decide ((k : Int) < 0) = false := decide_eq_false (by omega)
    have hka1 : k < r1 := by omega
    have hka2 : k + 1 < r1 := by omega
    have hka3 : k + 2 < r1 := by omega
    have hokf : ∀ p ∈ Rl ++ [f], p.ok = true := fun p hp => by rcases List.mem_append.1 hp with hp | hp; (· exact hokr p hp); (· rw [List.mem_singleton.1 hp]; exact hf)
    have HR9 := hid hr9
    clear hr9
    obtain ⟨b7, ha7, hrow7, hbl7⟩ := own_at C5.out.r hxa
    subst ha7
    have hca := row_of hrow7 hxa (k * 10) rfl
    have hcb := row_of hrow7 hxb ((k + 1) * 10) rfl
    have hcc := row_of hrow7 hxc ((k + 2) * 10) rfl
    have HN1 := hid (show ∀ W, Calls Try.prog 92 #[.agg #[.int .i64 xa.t, .int .i64 xa.x, .int .i64 xa.y, .int .i64 xa.z, .int .i64 xa.e, .int .i64 xa.a, .int .i64 xa.b, .int .i64 xa.c, .int .i64 xa.d, .int .i64 xa.g], .agg #[.int .i64 xb.t, .int .i64 xb.x, .int .i64 xb.y, .int .i64 xb.z, .int .i64 xb.e, .int .i64 xb.a, .int .i64 xb.b, .int .i64 xb.c, .int .i64 xb.d, .int .i64 xb.g], .agg #[.int .i64 m0, .int .i64 m1, .int .i64 m2, .int .i64 m3]] W fun r w' => r = .returned (.bool true) ∧ Below W.heap.size W w' from fun W => hn1 ▸ nearX_any xa xb m0 m1 m2 m3 W (hokf _ (List.mem_of_getElem? hxa)) (hokf _ (List.mem_of_getElem? hxb)) hm)
    have HN2 := hid (show ∀ W, Calls Try.prog 92 #[.agg #[.int .i64 xb.t, .int .i64 xb.x, .int .i64 xb.y, .int .i64 xb.z, .int .i64 xb.e, .int .i64 xb.a, .int .i64 xb.b, .int .i64 xb.c, .int .i64 xb.d, .int .i64 xb.g], .agg #[.int .i64 xc.t, .int .i64 xc.x, .int .i64 xc.y, .int .i64 xc.z, .int .i64 xc.e, .int .i64 xc.a, .int .i64 xc.b, .int .i64 xc.c, .int .i64 xc.d, .int .i64 xc.g], .agg #[.int .i64 m0, .int .i64 m1, .int .i64 m2, .int .i64 m3]] W fun r w' => r = .returned (.bool true) ∧ Below W.heap.size W w' from fun W => hn2 ▸ nearX_any xb xc m0 m1 m2 m3 W (hokf _ (List.mem_of_getElem? hxb)) (hokf _ (List.mem_of_getElem? hxc)) hm)
    have cm0 := fun d os => cell_regrown C5.out.c0 d os
    have cm1 := fun d os => cell_regrown C5.out.c1 d os
    have cm2 := fun d os => cell_regrown C5.out.c2 d os
    have cm3 := fun d os => cell_regrown C5.out.c3 d os
    have cm5 := fun d os => cell_regrown C5.out.c5 d os
    have pa0 := fun d os => cell_regrown (w := W5) (a := ⟨b7, k * 10, none⟩) (v := .int .i64 xa.t) (hca 0 (by decide)) d os
    have pa1 := fun d os => cell_regrown (w := W5) (a := ⟨b7, k * 10 + 1, none⟩) (v := .int .i64 xa.x) (hca 1 (by decide)) d os
    have pa2 := fun d os => cell_regrown (w := W5) (a := ⟨b7, k * 10 + 2, none⟩) (v := .int .i64 xa.y) (hca 2 (by decide)) d os
    have pa3 := fun d os => cell_regrown (w := W5) (a := ⟨b7, k * 10 + 3, none⟩) (v := .int .i64 xa.z) (hca 3 (by decide)) d os
    have pa4 := fun d os => cell_regrown (w := W5) (a := ⟨b7, k * 10 + 4, none⟩) (v := .int .i64 xa.e) (hca 4 (by decide)) d os
    have pa5 := fun d os => cell_regrown (w := W5) (a := ⟨b7, k * 10 + 5, none⟩) (v := .int .i64 xa.a) (hca 5 (by decide)) d os
    have pa6 := fun d os => cell_regrown (w := W5) (a := ⟨b7, k * 10 + 6, none⟩) (v := .int .i64 xa.b) (hca 6 (by decide)) d os
    have pa7 := fun d os => cell_regrown (w := W5) (a := ⟨b7, k * 10 + 7, none⟩) (v := .int .i64 xa.c) (hca 7 (by decide)) d os
    have pa8 := fun d os => cell_regrown (w := W5) (a := ⟨b7, k * 10 + 8, none⟩) (v := .int .i64 xa.d) (hca 8 (by decide)) d os
    have pa9 := fun d os => cell_regrown (w := W5) (a := ⟨b7, k * 10 + 9, none⟩) (v := .int .i64 xa.g) (hca 9 (by decide)) d os
    have pb0 := fun d os => cell_regrown (w := W5) (a := ⟨b7, (k + 1) * 10, none⟩) (v := .int .i64 xb.t) (hcb 0 (by decide)) d os
    have pb1 := fun d os => cell_regrown (w := W5) (a := ⟨b7, (k + 1) * 10 + 1, none⟩) (v := .int .i64 xb.x) (hcb 1 (by decide)) d os
    have pb2 := fun d os => cell_regrown (w := W5) (a := ⟨b7, (k + 1) * 10 + 2, none⟩) (v := .int .i64 xb.y) (hcb 2 (by decide)) d os
    have pb3 := fun d os => cell_regrown (w := W5) (a := ⟨b7, (k + 1) * 10 + 3, none⟩) (v := .int .i64 xb.z) (hcb 3 (by decide)) d os
    have pb4 := fun d os => cell_regrown (w := W5) (a := ⟨b7, (k + 1) * 10 + 4, none⟩) (v := .int .i64 xb.e) (hcb 4 (by decide)) d os
    have pb5 := fun d os => cell_regrown (w := W5) (a := ⟨b7, (k + 1) * 10 + 5, none⟩) (v := .int .i64 xb.a) (hcb 5 (by decide)) d os
    have pb6 := fun d os => cell_regrown (w := W5) (a := ⟨b7, (k + 1) * 10 + 6, none⟩) (v := .int .i64 xb.b) (hcb 6 (by decide)) d os
    have pb7 := fun d os => cell_regrown (w := W5) (a := ⟨b7, (k + 1) * 10 + 7, none⟩) (v := .int .i64 xb.c) (hcb 7 (by decide)) d os
    have pb8 := fun d os => cell_regrown (w := W5) (a := ⟨b7, (k + 1) * 10 + 8, none⟩) (v := .int .i64 xb.d) (hcb 8 (by decide)) d os
    have pb9 := fun d os => cell_regrown (w := W5) (a := ⟨b7, (k + 1) * 10 + 9, none⟩) (v := .int .i64 xb.g) (hcb 9 (by decide)) d os
    have pc0 := fun d os => cell_regrown (w := W5) (a := ⟨b7, (k + 2) * 10, none⟩) (v := .int .i64 xc.t) (hcc 0 (by decide)) d os
    have pc1 := fun d os => cell_regrown (w := W5) (a := ⟨b7, (k + 2) * 10 + 1, none⟩) (v := .int .i64 xc.x) (hcc 1 (by decide)) d os
    have pc2 := fun d os => cell_regrown (w := W5) (a := ⟨b7, (k + 2) * 10 + 2, none⟩) (v := .int .i64 xc.y) (hcc 2 (by decide)) d os
    have pc3 := fun d os => cell_regrown (w := W5) (a := ⟨b7, (k + 2) * 10 + 3, none⟩) (v := .int .i64 xc.z) (hcc 3 (by decide)) d os
    have pc4 := fun d os => cell_regrown (w := W5) (a := ⟨b7, (k + 2) * 10 + 4, none⟩) (v := .int .i64 xc.e) (hcc 4 (by decide)) d os
    have pc5 := fun d os => cell_regrown (w := W5) (a := ⟨b7, (k + 2) * 10 + 5, none⟩) (v := .int .i64 xc.a) (hcc 5 (by decide)) d os
    have pc6 := fun d os => cell_regrown (w := W5) (a := ⟨b7, (k + 2) * 10 + 6, none⟩) (v := .int .i64 xc.b) (hcc 6 (by decide)) d os
    have pc7 := fun d os => cell_regrown (w := W5) (a := ⟨b7, (k + 2) * 10 + 7, none⟩) (v := .int .i64 xc.c) (hcc 7 (by decide)) d os
    have pc8 := fun d os => cell_regrown (w := W5) (a := ⟨b7, (k + 2) * 10 + 8, none⟩) (v := .int .i64 xc.d) (hcc 8 (by decide)) d os
    have pc9 := fun d os => cell_regrown (w := W5) (a := ⟨b7, (k + 2) * 10 + 9, none⟩) (v := .int .i64 xc.g) (hcc 9 (by decide)) d os
    have HXA := hid hxa
    have HXB := hid hxb
    have HXC := hid hxc
    clear hrow7 hca hcb hcc hxa hxb hxc hokf
    go_wp2_with fail
    refine wp_region_quiet_below (by kernel_rfl) (by kernel_rfl) ?_
    repeat (first | go_big_quiet_step ((first | (go_at_call 92; with_reducible exact Calls.regrown_of (HN1.out _)) | (go_at_call 92; with_reducible exact Calls.regrown_of (HN2.out _)))) | quiet_step ((first | (go_at_call 92; with_reducible exact Calls.regrown_of (HN1.out _)) | (go_at_call 92; with_reducible exact Calls.regrown_of (HN2.out _)))))
    refine wpQuiet_nil ?_
    intro _ hw'
    obtain ⟨⟨dqV7, osV7⟩, hw2⟩ := hw'
    subst hw2
    have HQV7 := hid (below_regrown W5 dqV7 osV7)
    generalize Sort.grow (redrawn W5 dqV7) osV7 = V7 at HQV7 ⊢
    have hsV7 := HQV7.out.size
    clear cm0 cm1 cm2 cm3 cm5 pa0 pa1 pa2 pa3 pa4 pa5 pa6 pa7 pa8 pa9 pb0 pb1 pb2 pb3 pb4 pb5 pb6 pb7 pb8 pb9 pc0 pc1 pc2 pc3 pc4 pc5 pc6 pc7 pc8 pc9
    have HC7 := hid (C5.out.still HQV7.out)
    have HB7 := hid (B5.out.trans (HQV7.out.mono (by have h1 := B5.out.size; have h2 := HLT.out; have h3 := HGB.out; omega)))
    have c75 : V7.cell? ⟨g, 5, none⟩ = some (.slice (some ⟨b7, 0, none⟩) r1 c7) := HC7.out.c5
    have z1 : V7.frozen? ⟨g, 5, none⟩ = false := by have hh := HC7.out.hg; simp [World.frozen?, hh]
    have hcap : r1 ≤ c7 := own_cap C5.out.r (by rw [List.length_append, List.length_singleton, HR1.out, HNR.out])
    have hkc : k < c7 := by omega
    have hrk : r1 - k = 3 := by have := HR9.out; omega
    clear HQV7
    obtain ⟨CB, hCB, hCBs⟩ := block_at HC7.out.r (by rw [List.length_append, List.length_singleton]; omega)
    have HRA := hid (show RowsAt V7 b7 (k * 10) 10 [xa.row, xb.row, xc.row] from rows_three (rows_at HC7.out.r (by rw [List.length_append, List.length_singleton]; omega)) HXA.out HXB.out HXC.out)
    have hlen7 : (Rl ++ [f]).length = r1 := by rw [List.length_append, List.length_singleton, HR1.out, HNR.out]
    have hcut : OwnF V7 B (.slice (some ⟨b7, 0, none⟩) k c7) (Rl.take k) := by
      have h9 := OwnR.cut HC7.out.r (k := k) (by omega) (by rw [List.length_map, hlen7]) hCB hCB rfl (fun _ _ => rfl)
      unfold OwnF
      rw [← List.map_take, List.take_append_of_le_length (by omega)] at h9
      exact h9
    have C8 := hid (ClV.putR HC7.out.hg HGB.out HC7.out.k HC7.out.i hcut (fun b hb => HC7.out.kr b hb))
    have HCB := hid hCB
    have HKP := hid (show Keep55 V7 (V7.setCell ⟨g, 5, none⟩ (.slice (some ⟨b7, 0, none⟩) k c7)) from Keep55.set HC7.out.hg (by decide))
    have HB8 := hid (show Below B w (V7.setCell ⟨g, 5, none⟩ (.slice (some ⟨b7, 0, none⟩) k c7)) from below_set HB7.out HGB.out _)
    have hrl : (Rl.take k).length = k := by rw [List.length_take]; omega
    have HRL := hid hrl
    clear hcut hCB hlen7 hrl c57 hCBs
    go_wp2_with fail
    clear c75 z1
    refine (drop_any B g m0 m1 m2 m3 Kl (Rl.take k) I _ _ iv _ C8.out (by rw [HRL.out]; have h1 := HNR.out; omega)).mono ?_
    rintro r9 w8 ⟨rfl, ⟨iv8, hc8⟩, hb8, hx8⟩
    have HC8 := hid hc8
    have HB9 := hid (HB8.out.trans hb8)
    have HX8 := hid (HKP.out.trans hx8)
    clear hc8 hb8 hx8 C8 HB8 HKP
    have HRB := hid (show RowsAt w8 b7 (k * 10) 10 [xa.row, xb.row, xc.row] from rows_keep HRA.out HCB.out HX8.out)
    have hca8 : ∀ j, j < 10 → w8.cell? ⟨b7, k * 10 + j, none⟩ = xa.row[j]? := fun j hj => by have h9 := HRB.out 0 xa.row rfl j hj; rwa [Nat.zero_mul, Nat.add_zero] at h9
    have hol : (I ++ offs (Rl.take k)).length ≤ 200000 := by rw [List.length_append, show (offs (Rl.take k)).length = (Rl.take k).length by simp [offs], HRL.out]; have h1 := HNR.out; omega
    have HOL := hid hol
    clear hol
    go_wp2_with (refine fx_load rfl 55 (.tmp 126) rfl b7 (k * 10) rfl xa hca8 Try.underlying55 rfl size55f ?_)
    refine (issue_any B g m0 m1 m2 m3 3 Kl [] (I ++ offs (Rl.take k)) _ _ iv8 xa _ HC8.out (by have := HOL.out; omega)).mono ?_
    rintro r9 w9 ⟨rfl, ⟨iv9, hc9⟩, hb9, hx9⟩
    have HC9 := hid hc9
    have HBA := hid (HB9.out.trans hb9)
    have HRC := hid (show RowsAt w9 b7 (k * 10) 10 [xa.row, xb.row, xc.row] from rows_keep HRB.out (HX8.out _ _ HCB.out) hx9)
    clear hc9 hb9 hx9 HB9 HRB hca8 HC8
    have c4 : w9.cell? ⟨g, 4, none⟩ = some (.slice (some ⟨bk, 0, none⟩) n kc) := HC9.out.c4
    have HL1 := hid (show (Kl.map Fx.row).length + [xa.row, xb.row, xc.row].length ≤ maxLen by rw [List.length_map, ← HNA.out]; show n + 3 ≤ _; unfold maxLen; omega)
    have HL2 := hid (show ((Kl.map Fx.row).length + [xa.row, xb.row, xc.row].length) * 80 ≤ 140737488355328 by rw [List.length_map, ← HNA.out]; show (n + 3) * 80 ≤ _; omega)
    have HL3 := hid (show B ≤ w9.heap.size by have h1 := HBA.out.size; have h2 := HLT.out; have h3 := HGB.out; omega)
    have HGL := hid (show g < w9.heap.size from HC9.out.lt)
    go_wp2_with (first | (at_builtin; go_loud (refine wpList_append_rowsR rfl (.tmp 133) (.tmp 134) 106 rfl B 55 i0 _ 10 80 Try.underlying106 HI.out HZ0.out HZ1.out HZ2.out rfl (by decide) _ (Kl.map Fx.row) [xa.row, xb.row, xc.row] rfl HC9.out.k b7 (k * 10) 3 (c7 - k) rfl rfl HRC.out (rows_wide [xa, xb, xc]) HL1.out HL2.out HL3.out ?_; intro va wa ho1 ho2 ho3; obtain ⟨aa, ca, haa⟩ := OwnR.slice ho1; subst haa; generalize hla : (Kl.map Fx.row ++ [xa.row, xb.row, xc.row]).length = na at *; have HO1 := hid ho1; have HO2 := hid ho2; clear ho1 ho2 ho3 hla; have HGA := hid ((HO2.out.block g HGL.out (fun e => own_not HC9.out.k HC9.out.hg (by decide) e.symm)).trans HC9.out.hg); have z1 : wa.frozen? ⟨g, 4, none⟩ = false := (by have hh := HGA.out; simp [World.frozen?, hh]); have z0 : wa.cell? ⟨g, 4, none⟩ = some (.slice (some ⟨bk, 0, none⟩) n kc) := (cell_row (j := 4) HGA.out).trans rfl)))
    (first | (refine bodyPost_ret (results_none rfl _ _ _) rfl ?_) | go_end0)
    have hnew : OwnF wa B (.slice aa na ca) (Kl ++ [xa, xb, xc]) := by have h9 := HO1.out; unfold OwnF; rw [List.map_append]; exact h9
    exact ⟨rfl, ⟨_, _, _, ClV.putK HGA.out HGB.out (show OwnF wa B (.slice none 0 0) [] from OwnR.nil _ _ _ _) (HC9.out.i.same (fun k9 e => HO2.out.block k9 (own_blocks_lt HC9.out.i e) (fun e2 => own_apart HC9.out.k HC9.out.i (by decide) k9 e2.symm e))) hnew (fun _ _ => by simp [Value.ownBlock])⟩, below_set (below_grown HBA.out HO2.out (fun k9 hk9 => OwnR.ownBlock HC9.out.k k9 hk9) HL3.out) HGB.out _⟩
end Go.Proofs.Yteoikaedpgianaa
