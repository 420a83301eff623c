/- TileEncodes: the encoding of a tile is the document's, Decode returns the tile, and an encoding in which one byte was changed is refused, for at most 40 points; for more the law answers by itself. Every input, no condition. (Printed by wip/gen_enclaw.py.) -/
import Derived.Test.YteanlcefdoigcaaDecLaw
import Derived.Test.YteanlcefdoigcaaWideX
namespace Go.Proofs.Yteanlcefdoigcaa
open Go.ChangeShapes Go.WideShapes Go.ChangeAt Go.RowKit Go.Maps Go.Sort

theorem encT_byte (t : Tl) : ∀ x ∈ encT t, x < 256 := app_byte (encB_byte _) (by intro x hx; simp [bytes4] at hx; omega)
theorem ownB_row {W : World} {B : Nat} {v : Value} {xs : List Nat} (h : OwnB W B v xs) (hp : 0 < xs.length) : ∃ g cap, v = .slice (some ⟨g, 0, none⟩) xs.length cap ∧ W.frozen? ⟨g, 0, none⟩ = false ∧ ∀ i, W.frozen? ⟨g, i, none⟩ = false := by
  obtain ⟨h1, h2⟩ := h.1
  rcases h2 with ⟨_, h0⟩ | ⟨g0, cap, cur, hv, hB, hr, hn, hm, _⟩
  · omega
  · subst hv
    exact ⟨g0, cap, rfl, by simp [World.frozen?, hr], fun i => by simp [World.frozen?, hr]⟩
theorem bytes_set {W : World} {g m i value : Nat} {l : List Nat} (h : bytesAt W g 0 m (fun j => l.getD j 0)) (hm : l.length = m) :
    bytesAt (W.setCell ⟨g, i, none⟩ (.int .u8 (value : Nat))) g 0 m (fun j => (l.set i value).getD j 0) := by
  intro j hj
  have h0 := h j hj
  rw [Nat.zero_add] at h0 ⊢
  by_cases e : j = i
  · subst e
    rw [World.cell?_setCell_same W ⟨g, j, none⟩ (.int .u8 (value : Nat)) h0]
    show some (Value.int .u8 ((value : Nat) : Int)) = some (Value.int .u8 (((l.set j value).getD j 0 : Nat) : Int))
    rw [List.getD_eq_getElem?_getD, List.getElem?_set_self (by omega)]
    rfl
  · rw [World.cell?_setCell_other W ⟨g, i, none⟩ ⟨g, j, none⟩ (.int .u8 (value : Nat)) (show (⟨g, i, none⟩ : Addr) ≠ ⟨g, j, none⟩ from fun h => by injection h with _ h2; omega), h0]
    show some (Value.int .u8 ((l.getD j 0 : Nat) : Int)) = some (Value.int .u8 (((l.set i value).getD j 0 : Nat) : Int))
    rw [List.getD_eq_getElem?_getD, List.getD_eq_getElem?_getD, List.getElem?_set_ne (fun h => e h.symm)]
set_option maxRecDepth 100000 in
set_option maxHeartbeats 6400000 in
theorem encodes_law (k : Ky) (v : Value) (P : List Pt) (z : Int) (value : Nat) (w : World) (hp : PtsV w v P) (hPl : P.length ≤ maxLen) (hq : value < 256) :
    Calls Try.prog 13 #[.agg #[.int .i64 k.L, .int .i64 k.x, .int .i64 k.y, .int .i64 k.z, v], .int .i64 z, .int .u8 (value : Nat)] w fun r w' => r = .returned (.bool true) ∧ Below w.heap.size w w' := by
  have HP := hid hp
  obtain ⟨a, cap, rfl, _⟩ := hp
  obtain ⟨n, hn⟩ : ∃ n, n = P.length := ⟨_, rfl⟩
  rw [← hn] at hPl HP ⊢
  have HN := hid hn
  have HML := hid hPl
  obtain ⟨kL, kx, ky, kz⟩ := k
  clear hn hPl
  have HW1 := hid (show Below w.heap.size w ((w.alloc (.cells #[.int .i64 kL, .int .i64 kx, .int .i64 ky, .int .i64 kz, .slice a n cap] 49)).alloc (.cells #[.int .i64 kL, .int .i64 kx, .int .i64 ky, .int .i64 kz, .slice a n cap] 49)) from (Below.alloc (Below.refl _ _) (Nat.le_refl _) _).alloc (by simp) _)
  have HT1 := hid (show TilesV ((w.alloc (.cells #[.int .i64 kL, .int .i64 kx, .int .i64 ky, .int .i64 kz, .slice a n cap] 49)).alloc (.cells #[.int .i64 kL, .int .i64 kx, .int .i64 ky, .int .i64 kz, .slice a n cap] 49)) (.slice (some ⟨w.heap.size + 1, 0, none⟩) 1 1) [⟨⟨kL, kx, ky, kz⟩, .slice a n cap, P⟩] from
    ⟨⟨some ⟨w.heap.size + 1, 0, none⟩, 1, rfl, Or.inr ⟨_, 0, rfl, by simp, RowsAt.one (heap_alloc_at _ _ _ (by simp))⟩⟩, fun e he => by
      obtain rfl := List.mem_singleton.1 he
      exact HP.out.still HW1.out⟩)
  have HWD := hid (wide_any _ _ _ HT1.out)
  go_enter Try.func13, Try.ntmps13
  go_wp2_with (refine wpList_load_at rfl 49 (.tmp 3) rfl rfl (heap_alloc_at _ _ _ rfl) Try.underlying49 rfl size49 rfl ?_)
  refine HWD.out.mono ?_
  rintro r w1 ⟨rfl, hb1⟩
  have HB1 := hid (HW1.out.trans (hb1.mono (by simp <;> omega)))
  have T1 := hid (heap_still hb1 (heap_alloc_past _ _ _ _ (heap_alloc_at w (.cells #[.int .i64 kL, .int .i64 kx, .int .i64 ky, .int .i64 kz, .slice a n cap] 49) _ rfl)))
  have hz1 := HB1.out.size
  clear hb1
  cases hwd : decide (WideL [⟨⟨kL, kx, ky, kz⟩, .slice a n cap, P⟩])
  case true =>
    clear hwd
    go_wp2_with fail
    refine (awake_any _).mono ?_
    rintro r w4 ⟨rfl, hb4⟩
    go_wp2_with fail
    go_ret
    exact ⟨rfl, HB1.out.trans (hb4.mono hz1)⟩
  have hn40 : n ≤ 40 := by
    have h := of_decide_eq_false hwd
    rw [HN.out]
    exact Nat.le_of_not_lt (fun g => h (Or.inr ⟨_, List.mem_singleton.2 rfl, g⟩))
  clear hwd
  have HP1 := hid (HP.out.still HB1.out)
  go_wp2_with (refine wpList_load_at rfl 49 (.tmp 3) rfl rfl T1.out Try.underlying49 rfl size49 rfl ?_)
  refine (xEncode_any ⟨kL, kx, ky, kz⟩ (.slice a n cap) P _ HP1.out (by rw [← HN.out]; exact HML.out)).mono ?_
  rintro r w2 ⟨hr2, hb2⟩
  have T2 := hid (heap_still hb2 T1.out)
  have HP2 := hid (HP1.out.still hb2)
  have HB2 := hid (HB1.out.trans (hb2.mono hz1))
  have hz2 := HB2.out.size
  clear hb2
  rcases hr2 with ⟨hT, v7, rfl, ho7⟩ | ⟨hT, rfl⟩
  · have HO7 := hid ho7
    have HT := hid hT
    obtain ⟨p7, n7, c7, rfl⟩ := ho7.shape
    clear ho7 hT
    go_wp2_with (refine wpList_load_at rfl 49 (.tmp 3) rfl rfl T2.out Try.underlying49 rfl size49 rfl ?_)
    refine (rEncode_any ⟨kL, kx, ky, kz⟩ (.slice a n cap) P _ HP2.out (by rw [← HN.out]; exact HML.out)).mono ?_
    rintro r w3 ⟨hr3, hb3⟩
    rcases hr3 with ⟨_, v9, rfl, ho9⟩ | ⟨hT, _⟩
    rotate_left
    · exact absurd HT.out hT
    have T3 := hid (heap_still hb3 T2.out)
    have HP3 := hid (HP2.out.still hb3)
    have HB3 := hid (HB2.out.trans (hb3.mono hz2))
    have hz3 := HB3.out.size
    have HO73 := hid (HO7.out.grow hb3)
    clear hb3
    have hE4 := encT_long ⟨⟨kL, kx, ky, kz⟩, P⟩
    have hEb := encT_byte ⟨⟨kL, kx, ky, kz⟩, P⟩
    have HOK := hid (fun (n' : Nat) (h : (encT ⟨⟨kL, kx, ky, kz⟩, P⟩).length = n' + 4) => (okX_iff hEb h).2 ⟨HT.out, rfl⟩)
    have HCH := hid (fun (c : List Nat) (hc : ∀ x ∈ c, x < 256) (n' : Nat) (hn : c.length = n' + 4) (hlen : c.length = (encT ⟨⟨kL, kx, ky, kz⟩, P⟩).length) (i : Nat) (hi : i < c.length) (hne : c.getD i 0 ≠ (encT ⟨⟨kL, kx, ky, kz⟩, P⟩).getD i 0) (hs : ∀ j, j ≠ i → c.getD j 0 = (encT ⟨⟨kL, kx, ky, kz⟩, P⟩).getD j 0) => okX_changed hc hn hlen hi hne hs)
    obtain ⟨g7, c7', he7, hc7, hm7, hby7, hg7, hgz7⟩ := ownB_at HO73.out (by omega)
    injection he7 with e1 e2 e3
    subst e1 e2 e3
    obtain ⟨g9, c9, rfl, hc9, hm9, hby9, hg9, hgz9⟩ := ownB_at ho9 (by omega)
    obtain ⟨g9', c9', he9, _, hfz⟩ := ownB_row ho9 (by omega)
    injection he9 with e1 e2 e3
    injection e1 with e1
    injection e1 with e1
    subst e1
    have HFZ := hid hfz
    clear hfz e2 e3 ho9
    have hs1 := str_at (cap := c7) hby7
    have hs2 := str_at (cap := c9) hby9
    have HBY7 := hid hby7
    have HBY9 := hid hby9
    have HEB := hid hEb
    generalize encT ⟨⟨kL, kx, ky, kz⟩, P⟩ = ET at *
    generalize strL ET = S at *
    obtain ⟨m, hm⟩ : ∃ m, m = ET.length := ⟨_, rfl⟩
    obtain ⟨n', hn'⟩ : ∃ n', ET.length = n' + 4 := ⟨ET.length - 4, by omega⟩
    have HN' := hid hn'
    have HX := hid (xDecode_long g7 0 n' c7 ET w3 hgz7 hEb hn' (by omega) hm7 hby7)
    rw [← hn', ← hm] at HX
    rw [← hm] at hs1 hs2 hE4 hc7 hc9 ⊢
    have HM := hid hm
    have HOKK := hid (HOK.out n' hn')
    clear hm hn' hEb hby7 hby9 HOK
    go_wp2_with fail
    refine HX.out.mono ?_
    rintro r w4 ⟨⟨_, hgot⟩ | ⟨hno, _⟩, hb4⟩
    rotate_left
    · exact absurd HOKK.out.1 hno
    rw [HOKK.out.2] at hgot
    obtain ⟨v4, rfl, hp4⟩ := hgot
    simp only at hp4
    have HP4 := hid hp4
    obtain ⟨a4, c4, rfl, _⟩ := hp4
    rw [← HN.out] at HP4 ⊢
    have T4 := hid (heap_still hb4 T3.out)
    have HPT4 := hid (HP3.out.still hb4)
    have HB4 := hid (HB3.out.trans (hb4.mono hz3))
    have HBY94 := hid (bytes_still HBY9.out hgz9 hb4)
    have HFZ4 := hid (show ∀ i, w4.frozen? ⟨g9, i, none⟩ = false from fun i => by
      have h := HFZ.out i
      unfold World.frozen? at h ⊢
      rw [hb4.block g9 hgz9]
      exact h)
    have hz4 := HB4.out.size
    have hgz94 : g9 < w4.heap.size := Nat.lt_of_lt_of_le hgz9 hb4.size
    have hz34 := hb4.size
    clear hb4 HX HOKK HFZ HBY9 HBY7 T3 HP3 HO73 HO7 T2 HP2 T1 HP1
    have HBX := hid (show Below w4.heap.size w4 (((w4.alloc (.cells #[.int .i64 kL, .int .i64 kx, .int .i64 ky, .int .i64 kz, .slice a4 n c4] 49)).alloc (.cells #[.int .i64 kL, .int .i64 kx, .int .i64 ky, .int .i64 kz, .slice a4 n c4] 49)).alloc (.cells #[.int .i64 kL, .int .i64 kx, .int .i64 ky, .int .i64 kz, .slice a n cap] 49)) from ((Below.alloc (Below.refl _ _) (Nat.le_refl _) _).alloc (by simp) _).alloc (by simp; omega) _)
    have HU1 := hid (show TilesV (((w4.alloc (.cells #[.int .i64 kL, .int .i64 kx, .int .i64 ky, .int .i64 kz, .slice a4 n c4] 49)).alloc (.cells #[.int .i64 kL, .int .i64 kx, .int .i64 ky, .int .i64 kz, .slice a4 n c4] 49)).alloc (.cells #[.int .i64 kL, .int .i64 kx, .int .i64 ky, .int .i64 kz, .slice a n cap] 49)) (.slice (some ⟨w4.heap.size + 1, 0, none⟩) 1 1) [⟨⟨kL, kx, ky, kz⟩, .slice a4 n c4, P⟩] from
      ⟨⟨some ⟨w4.heap.size + 1, 0, none⟩, 1, rfl, Or.inr ⟨_, 0, rfl, by simp, RowsAt.one (heap_alloc_past _ _ _ _ (heap_alloc_at _ _ _ (by simp)))⟩⟩, fun e he => by
        obtain rfl := List.mem_singleton.1 he
        exact HP4.out.still HBX.out⟩)
    have HU2 := hid (show TilesV (((w4.alloc (.cells #[.int .i64 kL, .int .i64 kx, .int .i64 ky, .int .i64 kz, .slice a4 n c4] 49)).alloc (.cells #[.int .i64 kL, .int .i64 kx, .int .i64 ky, .int .i64 kz, .slice a4 n c4] 49)).alloc (.cells #[.int .i64 kL, .int .i64 kx, .int .i64 ky, .int .i64 kz, .slice a n cap] 49)) (.slice (some ⟨w4.heap.size + 1 + 1, 0, none⟩) 1 1) [⟨⟨kL, kx, ky, kz⟩, .slice a n cap, P⟩] from
      ⟨⟨some ⟨w4.heap.size + 1 + 1, 0, none⟩, 1, rfl, Or.inr ⟨_, 0, rfl, by simp, RowsAt.one (heap_alloc_at _ _ _ (by simp))⟩⟩, fun e he => by
        obtain rfl := List.mem_singleton.1 he
        exact HPT4.out.still HBX.out⟩)
    have HST := hid (same_tiles _ _ [⟨⟨kL, kx, ky, kz⟩, .slice a4 n c4, P⟩] [⟨⟨kL, kx, ky, kz⟩, .slice a n cap, P⟩] _ HU1.out HU2.out rfl (by simp) (fun e he => by
      obtain rfl := List.mem_singleton.1 he
      show P.length ≤ 4096
      rw [← HN.out]
      omega))
    go_wp2_with (first | (refine wpList_store_new rfl 49 (.tmp 11) (.tmp 44) rfl rfl rfl rfl size49 rfl rfl rfl ?_) | (refine wpList_load_at rfl 49 (.tmp 3) rfl rfl (heap_alloc_past _ _ _ _ (heap_alloc_past _ _ _ _ T4.out)) Try.underlying49 rfl size49 rfl ?_) | (refine wpList_load_at rfl 49 (.tmp 11) rfl rfl (heap_alloc_at _ _ _ rfl) Try.underlying49 rfl size49 rfl ?_))
    refine HST.out.mono ?_
    rintro r w5 ⟨rfl, hb5⟩
    have G5 := hid (show w5.heap[w4.heap.size]? = some (.cells #[.int .i64 kL, .int .i64 kx, .int .i64 ky, .int .i64 kz, .slice a4 n c4] 49) from heap_still hb5 (heap_alloc_past _ _ _ _ (heap_alloc_past _ _ _ _ (heap_alloc_at _ _ _ rfl))))
    have HB45 := hid (HBX.out.trans (hb5.mono (by simp; omega)))
    have HB5 := hid (HB4.out.trans (HB45.out.mono hz4))
    have HBY95 := hid (bytes_still HBY94.out hgz94 HB45.out)
    have HFZ5 := hid (show ∀ i, w5.frozen? ⟨g9, i, none⟩ = false from fun i => by
      have h := HFZ4.out i
      unfold World.frozen? at h ⊢
      rw [HB45.out.block g9 hgz94]
      exact h)
    have hz45 := HB45.out.size
    obtain ⟨ub, hub⟩ : ∃ ub, ub = w4.heap.size := ⟨_, rfl⟩
    rw [← hub] at G5 ⊢
    have hgu : g9 < ub := by omega
    have hub5 : ub < w5.heap.size := (Array.getElem?_eq_some_iff.1 G5.out).1
    have hwub : w.heap.size ≤ ub := by omega
    clear hub hb5 HST HU1 HU2 HBX HBY94 HFZ4 T4 HPT4
    go_upto_region 13 with fail
    obtain ⟨i, hi, him⟩ : ∃ i : Nat, wrap64 ((IntKind.u64.wrap z).tmod (m : Int)) = (i : Int) ∧ i < m := by
      have h0 := wrap_u64_nonneg z
      have h1 := Int.tmod_nonneg (m : Int) h0
      have h2 := Int.tmod_lt_of_pos (IntKind.u64.wrap z) (show (0 : Int) < (m : Int) by omega)
      refine ⟨((IntKind.u64.wrap z).tmod (m : Int)).toNat, ?_, by omega⟩
      generalize (IntKind.u64.wrap z).tmod (m : Int) = t at *
      unfold wrap64
      omega
    rw [hi]
    clear hi
    obtain ⟨x, hx⟩ : ∃ x, x = ET.getD i 0 := ⟨_, rfl⟩
    have hxb : x < 256 := by rw [hx]; exact getD_byte HEB.out i
    have c0 : w5.cell? ⟨g9, i, none⟩ = some (.int .u8 (x : Nat)) := by
      have h := HBY95.out i (by rw [← HM.out]; exact him)
      rw [Nat.zero_add] at h
      rw [hx]
      exact h
    have HX := hid hx
    clear hx
    by_cases hxv : x = value
    · have d1 : ((x : Int) == (value : Int)) = true := by simp [hxv]
      clear hxv
      go_wp2_with fail
      refine (awake_any _).mono ?_
      rintro r w8 ⟨rfl, hb8⟩
      go_wp2_with fail
      go_ret
      exact ⟨rfl, HB5.out.trans (hb8.mono HB5.out.size)⟩
    · have d1 : ((x : Int) == (value : Int)) = false := by
        refine beq_false_of_ne fun h => hxv (by omega)
      have f0 := HFZ5.out i
      have HXV := hid hxv
      clear hxv
      have hCb : ∀ y ∈ ET.set i value, y < 256 := fun y hy => by
        rcases List.mem_or_eq_of_mem_set hy with h | h
        · exact HEB.out y h
        · omega
      have hCl : (ET.set i value).length = ET.length := List.length_set
      have HXC := hid (xDecode_long g9 0 n' c9 (ET.set i value) (w5.setCell ⟨g9, i, none⟩ (.int .u8 (value : Nat))) (by simp; omega) hCb (by rw [hCl]; exact HN'.out) (by have := HN'.out; have := HM.out; omega) hm9 (by rw [hCl]; exact bytes_set HBY95.out rfl))
      rw [← HN'.out, ← HM.out] at HXC
      have hic : i < ET.length := by rw [← HM.out]; exact him
      have HNOK := hid (HCH.out (ET.set i value) hCb n' (by rw [hCl]; exact HN'.out) hCl i (by rw [hCl]; exact hic) (by
        rw [List.getD_eq_getElem?_getD, List.getElem?_set_self hic, ← HX.out]
        exact fun h => HXV.out h.symm) (fun j hj => by
        rw [List.getD_eq_getElem?_getD, List.getD_eq_getElem?_getD, List.getElem?_set_ne (fun h => hj h.symm)]))
      clear hCb hCl hic HCH
      generalize ET.set i value = C at *
      go_wp2_with fail
      refine HXC.out.mono ?_
      rintro r w7 ⟨⟨hok, _⟩ | ⟨_, rfl⟩, hb7⟩
      · exact absurd hok HNOK.out
      unfold refusedT
      have G7 := hid (heap_still hb7 (heap_set_other (g := g9) (j := i) G5.out (by omega) (.int .u8 (value : Nat))))
      have HB7 := hid ((HB5.out.setCell (p := ⟨g9, i, none⟩) (by show w.heap.size ≤ g9; omega) (.int .u8 (value : Nat))).trans (hb7.mono (by simp; omega)))
      have hz7 := HB7.out.size
      clear hb7
      have d0 : (w7.setRow ub #[.int .i64 0, .int .i64 0, .int .i64 0, .int .i64 0, .slice none 0 0]).cell? ⟨ub, 0, none⟩ = some (.int .i64 0) := (cell_row (j := 0) (setRow_heap _ _ _ _ _ _ G7.out)).trans rfl
      have d2 : (w7.setRow ub #[.int .i64 0, .int .i64 0, .int .i64 0, .int .i64 0, .slice none 0 0]).cell? ⟨ub, 1, none⟩ = some (.int .i64 0) := (cell_row (j := 1) (setRow_heap _ _ _ _ _ _ G7.out)).trans rfl
      have d3 : (w7.setRow ub #[.int .i64 0, .int .i64 0, .int .i64 0, .int .i64 0, .slice none 0 0]).cell? ⟨ub, 2, none⟩ = some (.int .i64 0) := (cell_row (j := 2) (setRow_heap _ _ _ _ _ _ G7.out)).trans rfl
      have d4 : (w7.setRow ub #[.int .i64 0, .int .i64 0, .int .i64 0, .int .i64 0, .slice none 0 0]).cell? ⟨ub, 3, none⟩ = some (.int .i64 0) := (cell_row (j := 3) (setRow_heap _ _ _ _ _ _ G7.out)).trans rfl
      have d5 : (w7.setRow ub #[.int .i64 0, .int .i64 0, .int .i64 0, .int .i64 0, .slice none 0 0]).cell? ⟨ub, 4, none⟩ = some (.slice none 0 0) := (cell_row (j := 4) (setRow_heap _ _ _ _ _ _ G7.out)).trans rfl
      have heq := eq39k 0 0 0 0
      go_wp2_with (refine wpList_store_at rfl 49 (.tmp 11) (.tmp 77) rfl rfl rfl G7.out size49 rfl rfl rfl ?_)
      refine (awake_any _).mono ?_
      rintro r w8 ⟨rfl, hb8⟩
      go_wp2_with fail
      go_ret
      exact ⟨rfl, (below_setRow HB7.out hwub _).trans (hb8.mono (by simp; omega))⟩
  · have HNT := hid hT
    clear hT
    go_wp2_with (refine wpList_load_at rfl 49 (.tmp 3) rfl rfl T2.out Try.underlying49 rfl size49 rfl ?_)
    refine (rEncode_any ⟨kL, kx, ky, kz⟩ (.slice a n cap) P _ HP2.out (by rw [← HN.out]; exact HML.out)).mono ?_
    rintro r w3 ⟨hr3, hb3⟩
    rcases hr3 with ⟨hT, _⟩ | ⟨_, rfl⟩
    · exact absurd hT HNT.out
    have HB3 := hid (HB2.out.trans (hb3.mono hz2))
    have hz3 := HB3.out.size
    clear hb3
    have hs1 := str_none (W := w3) (n := 0) (c := 0)
    generalize strL [] = S at *
    go_wp2_with fail
    refine (awake_any _).mono ?_
    rintro r w4 ⟨rfl, hb4⟩
    go_wp2_with fail
    go_ret
    exact ⟨rfl, HB3.out.trans (hb4.mono hz3)⟩

section
variable {H : Type} {enc : TypeId × Value → H} {w : World} {base : Nat} {spare : Nat → Bool} {held : Bool}
theorem open_agg49 {P : Program} {w : World} {r : Reach} {b0 : Nat} {t : TypeId} {n : Nat} {v : Value} (hs : P.cellsOf t = n) (hagg : (match P.underlying t with | some (.struct _) => true | some (.array _ _) => true | _ => false) = true) (hv : Value.okWide P w r b0 t v) :
    ∃ cs : List Value, v = .agg cs.toArray ∧ cs.length = n := by
  obtain ⟨cs, rfl, hsz⟩ : ∃ cs, v = .agg cs ∧ cs.size = P.cellsOf t := by
    unfold Value.okWide at hv
    split at hv
    · obtain ⟨cs, rfl, h, _⟩ := hv; exact ⟨cs, rfl, h⟩
    · obtain ⟨cs, rfl, h, _⟩ := hv; exact ⟨cs, rfl, h⟩
    · rename_i h1 h2
      split at hagg
      · rename_i fs he; exact absurd he (h1 fs)
      · rename_i n e he; exact absurd he (h2 n e)
      · simp at hagg
  exact ⟨cs.toList, by simp, by simpa [hs] using hsz⟩
theorem cells49e : Try.prog.cellsOf 49 = 5 := by kernel_rfl
set_option maxRecDepth 100000 in
theorem open_tile {r : Reach} {b0 : Nat} {v : Value} {d : DataW H} {p : List MemPlace} (hv : Value.okWide Try.prog w r b0 49 v) (h : DataW.Trod enc Try.prog w base spare held 49 v d p) :
    ∃ (k : Ky) (u : Value) (P : List Pt), v = .agg #[.int .i64 k.L, .int .i64 k.x, .int .i64 k.y, .int .i64 k.z, u] ∧ PtsV w u P ∧ P.length ≤ maxLen := by
  obtain ⟨cs, rfl, hsz⟩ := open_agg49 cells49e (by kernel_rfl) hv
  clear hv
  obtain ⟨fuel, hx⟩ := h
  obtain ⟨e, rfl, h2, _, h4, _⟩ := tile_cells hsz (by simpa [Value.cells] using hx)
  exact ⟨e.key, e.v, e.pts, rfl, h2, h4⟩
end
set_option maxRecDepth 100000 in
theorem tileEncodes_lifted (os : Os) (started : os.Started) (H : Type) (enc : TypeId × Value → H) :
    ReturnsInHanded {} Try.checked os 13 .any (Rows.tileEncodesSpec.pre6 enc Try.prog Try.f13 Rows.tileEncodesRow.domain false) (Rows.tileEncodesSpec.post enc Try.prog Try.f13 false true false false) := by
  refine law_lifted (C := Try.checked) (tb := 4) lawOwn started (by kernel_rfl) Try.func13 rfl ?_ (show Try.f13.resultTypes = #[4] by kernel_rfl) Try.underlying4 lawLaid ?_
    (ChangeSpec.witness6 (enc := enc) (C := Try.checked) false ⟨#[], #[.agg #[.int .i64 0, .int .i64 0, .int .i64 0, .int .i64 0, .slice none 0 0], .int .i64 0, .int .u8 0], []⟩ 8 (by kernel_rfl) (by kernel_rfl) (by kernel_rfl) (by kernel_rfl)) ?_
  · intro ds hds
    match ds, hds with
    | [d1, d2, d3], _ => exact ⟨rfl, rfl, rfl⟩
  · rw [Try.params13]
    intro t ht
    simp at ht
    rcases ht with rfl | rfl | rfl
    all_goals exact ⟨by kernel_rfl, of_decide_eq_true (by kernel_rfl)⟩
  · intro W base args ds p hval hA hlt _
    change DataW.TrodAll enc Try.prog W 0 (fun _ => true) true Try.f13.params.toList args.toList ds p at hA
    change ∀ (j : Nat) t v, Try.f13.params[j]? = some t → args[j]? = some v → Value.okWide Try.prog W .any base t v at hval
    rw [Try.params13] at hA hval
    obtain ⟨v0, vs0, d0, ds0, p0, q0, hargs, rfl, rfl, h0, r0⟩ := trodAll_cons hA
    obtain ⟨v1, vs1, d1, ds1, p1, q1, rfl, rfl, rfl, h1, r1⟩ := trodAll_cons r0
    obtain ⟨v2, vs2, d2, ds2, p2, q2, rfl, rfl, rfl, h2, r2⟩ := trodAll_cons r1
    obtain ⟨rfl, rfl, rfl⟩ := trodAll_nil r2
    obtain rfl : args = #[v0, v1, v2] := by cases args; simp_all
    obtain ⟨k, u, P, rfl, hp, hl⟩ := open_tile (hval 0 49 v0 rfl rfl) h0
    obtain ⟨z, rfl, _, _⟩ := open_int Try.underlying3 (hval 1 3 v1 rfl rfl) h1
    obtain ⟨n, rfl, _, _, hw⟩ := open_int Try.underlying5 (hval 2 5 v2 rfl rfl) h2
    have hn := wf_u8 hw
    obtain ⟨q, rfl⟩ : ∃ q : Nat, n = (q : Int) := ⟨n.toNat, by omega⟩
    exact encodes_law k u P z q W hp hl (by omega)
/-- TileEncodes, whatever the input. -/
theorem tileEncodes_holds : Rows.TileEncodesSaid :=
  OpenClaim.holds_of_wide 13 Try.f13 rfl rfl rfl rfl rfl rfl rfl ⟨rfl, rfl, rfl, rfl, rfl⟩ rfl rfl rfl rfl rfl (by kernel_rfl) Try.func13 (by kernel_rfl)
    (of_decide_eq_true (by kernel_rfl)) (by unfold Func.isWrapper; rw [if_neg (of_decide_eq_false (by kernel_rfl))]; exact ⟨rfl, rfl⟩)
    (fun os started H enc _ => tileEncodes_lifted os started H enc)
#print axioms tileEncodes_holds
end Go.Proofs.Yteanlcefdoigcaa
