/- TileMany: more than MaxPoints points are refused by Layout and by Update, for every valid point; for others the law answers by itself. Every input, no condition. -/
import Derived.Test.YteanlcefdoigcaaUpdX
import Derived.Test.YteanlcefdoigcaaRLay
import Derived.Test.YteanlcefdoigcaaLawKit
namespace Go.Proofs.Yteanlcefdoigcaa
open Go.ChangeShapes Go.WideShapes Go.ChangeAt Go.RowKit Go.Maps Go.Sort

/-- a point with another Id -/
def Pt.at (p : Pt) (j : Nat) : Pt := ⟨(j : Int), p.x, p.y, p.zl, p.zh, p.wd, p.nm, p.of, p.cl⟩
def manyL (p : Pt) (n : Nat) : List Pt := (List.range n).map p.at
theorem manyL_succ (p : Pt) (n : Nat) : manyL p (n + 1) = manyL p n ++ [p.at n] := by
  unfold manyL
  rw [List.range_succ, List.map_append]
  rfl
theorem manyL_len (p : Pt) (n : Nat) : (manyL p n).length = n := by simp [manyL]
theorem manyL_ids (p : Pt) (n : Nat) : (manyL p n).Pairwise (fun a b => a.id ≠ b.id) := by
  unfold manyL
  rw [List.pairwise_map]
  exact List.pairwise_lt_range.imp (fun {a b} h e => by
    have : ((a : Nat) : Int) = (b : Int) := e
    omega)
theorem at_ok {p : Pt} (h : okP p = true) {j : Nat} (hj : j < 100000) : okP (p.at j) = true := by
  unfold okP pointB at *
  simp only [Bool.and_eq_true] at *
  obtain ⟨h1, ⟨⟨⟨⟨⟨h2, h3⟩, h4⟩, h5⟩, h6⟩, h7⟩, h8⟩ := h
  refine ⟨h1, ⟨⟨⟨⟨⟨?_, h3⟩, h4⟩, h5⟩, h6⟩, h7⟩, h8⟩
  show inB 0 1152921504606846976 (j : Int) = true
  unfold inB
  rw [Bool.and_eq_true, decide_eq_true_eq, decide_eq_true_eq]
  omega
theorem manyL_ok {p : Pt} (h : okP p = true) {n : Nat} (hn : n < 100000) : ∀ q ∈ manyL p n, okP q = true := fun q hq => by
  obtain ⟨j, hj, rfl⟩ := List.mem_map.1 hq
  exact at_ok h (by have := List.mem_range.1 hj; omega)
theorem many_err {p : Pt} (h : okP p = true) {n : Nat} (hn : n < 100000) (h2 : 1025 ≤ n) : updErr (((manyL p n).drop 1).take 1024) ((manyL p n).take 1) [] 64 = 86 := by
  have hP : goodL (((manyL p n).drop 1).take 1024) = true := by
    rw [goodL_iff]
    exact ⟨by rw [List.length_take]; omega, fun q hq => manyL_ok h hn q (List.mem_of_mem_drop (List.mem_of_mem_take hq)), (manyL_ids p n).sublist ((List.take_sublist _ _).trans (List.drop_sublist _ _))⟩
  have hA : goodL ((manyL p n).take 1) = true := by
    rw [goodL_iff]
    exact ⟨by rw [List.length_take]; omega, fun q hq => manyL_ok h hn q (List.mem_of_mem_take hq), (manyL_ids p n).sublist (List.take_sublist _ _)⟩
  rw [updErr_go hP hA (by omega)]
  refine mergeErr_many GoneOk.nil ?_ ?_
  · intro a ha q hq
    rw [keepL_nil] at hq
    have hd := manyL_ids p n
    rw [← List.take_append_drop 1 (manyL p n), List.pairwise_append] at hd
    exact fun e => hd.2.2 a ha q (List.mem_of_mem_take hq) e.symm
  · rw [keepL_nil, List.length_take, List.length_take, List.length_drop, manyL_len]
    omega
theorem rows_cut {W : World} {b off sz : Nat} {l : List (List Value)} (h : RowsAt W b off sz l) (a k : Nat) : RowsAt W b (off + a * sz) sz ((l.drop a).take k) := fun i r hi j hj => by
  have hik : i < k := by
    have := (List.getElem?_eq_some_iff.1 hi).1
    rw [List.length_take] at this
    omega
  rw [List.getElem?_take_of_lt hik, List.getElem?_drop] at hi
  have := h (a + i) r hi j hj
  rwa [show off + (a + i) * sz + j = off + a * sz + i * sz + j by rw [Nat.add_mul]; omega] at this
theorem many_cut {p : Pt} {n lg cap : Nat} {W : World} (h : okP p = true) (hn : n < 100000) (h2 : 1025 ≤ n) (hl : lg < W.heap.size) (hr : RowsAt W lg 0 9 ((manyL p n).map Pt.row)) :
    Calls Try.prog 31 #[.slice (some ⟨lg, 9, none⟩) 1024 (cap - 1), .slice (some ⟨lg, 0, none⟩) 1 cap, .slice none 0 0, .int .i64 64] W fun r w' => r = .returned (.tuple #[.slice none 0 0, .slice none 0 0, .int .i64 86]) ∧ Below W.heap.size W w' := by
  have h1 := rows_cut hr 1 1024
  have h3 := rows_cut hr 0 1
  rw [← List.map_drop, ← List.map_take] at h1
  rw [List.drop_zero, ← List.map_take] at h3
  have hlen1 : (((manyL p n).drop 1).take 1024).length = 1024 := by rw [List.length_take, List.length_drop, manyL_len]; omega
  have hlen2 : ((manyL p n).take 1).length = 1 := by rw [List.length_take, manyL_len]; omega
  refine (xupdate_any _ _ _ (((manyL p n).drop 1).take 1024) ((manyL p n).take 1) [] 64 W ⟨some ⟨lg, 9, none⟩, cap - 1, by rw [hlen1], Or.inr ⟨lg, 9, rfl, hl, h1⟩⟩ ⟨some ⟨lg, 0, none⟩, cap, by rw [hlen2], Or.inr ⟨lg, 0, rfl, hl, h3⟩⟩ ⟨none, 0, rfl, Or.inl rfl⟩ (by rw [hlen1]; unfold maxLen; omega) (by rw [hlen2]; unfold maxLen; omega) (by simp) (fun z hz => by simp at hz)).mono ?_
  rintro r w' ⟨⟨v, k, e, E, K, rfl, _, _, _, hr, hnv⟩, hb⟩
  obtain rfl : e = 86 := hr.err.trans (many_err h hn h2)
  obtain ⟨rfl, rfl⟩ := hnv (by decide)
  exact ⟨rfl, hb⟩
def MnRel (w : World) (g : Nat) (p : Pt) (i : Nat) (ov : Value) (W : World) : Prop :=
  ∃ (o : Value) (id : Int), o = ov ∧ OwnP W (g + 1) ov (manyL p i) ∧ W.heap[g]? = some (.cells #[.int .i64 id, .int .i64 p.x, .int .i64 p.y, .int .i64 p.zl, .int .i64 p.zh, .int .i64 p.wd, .int .i64 p.nm, .int .i64 p.of, .int .i64 p.cl] 36) ∧ Below w.heap.size w W
set_option maxRecDepth 100000 in
set_option maxHeartbeats 1600000 in
theorem many_law (p0 p1 p2 p3 p4 p5 p6 p7 p8 : Int) (nn : Nat) (hnn : nn < 256) (w : World) :
    Calls Try.prog 7 #[.agg #[.int .i64 p0, .int .i64 p1, .int .i64 p2, .int .i64 p3, .int .i64 p4, .int .i64 p5, .int .i64 p6, .int .i64 p7, .int .i64 p8], .int .u8 (nn : Int)] w fun r w' => r = .returned (.bool true) ∧ Below w.heap.size w w' := by
  go_enter Try.func7, Try.ntmps7
  go_upto_region 1 with fail
  refine gen_world (fun W1 hW1 => ?_)
  have HP1 := hid (show W1.heap[w.heap.size]? = some (.cells #[.int .i64 p0, .int .i64 p1, .int .i64 p2, .int .i64 p3, .int .i64 p4, .int .i64 p5, .int .i64 p6, .int .i64 p7, .int .i64 p8] 36) by rw [hW1]; exact heap_alloc_at _ _ _ rfl)
  have HB1 := hid (show Below w.heap.size w W1 by rw [hW1]; exact (Below.refl _ _).alloc (Nat.le_refl _) _)
  have hs1 : w.heap.size < W1.heap.size := by rw [hW1]; simp
  clear hW1
  obtain ⟨g, hg⟩ : ∃ g, g = w.heap.size := ⟨_, rfl⟩
  rw [← hg] at HP1 ⊢
  have HG := hid hg
  clear hg
  have b0 : W1.cell? ⟨g, 0, none⟩ = some (.int .i64 p0) := (cell_row (j := 0) HP1.out).trans rfl
  have b1 : W1.cell? ⟨g, 1, none⟩ = some (.int .i64 p1) := (cell_row (j := 1) HP1.out).trans rfl
  have b2 : W1.cell? ⟨g, 2, none⟩ = some (.int .i64 p2) := (cell_row (j := 2) HP1.out).trans rfl
  have b3 : W1.cell? ⟨g, 3, none⟩ = some (.int .i64 p3) := (cell_row (j := 3) HP1.out).trans rfl
  have b4 : W1.cell? ⟨g, 4, none⟩ = some (.int .i64 p4) := (cell_row (j := 4) HP1.out).trans rfl
  have b5 : W1.cell? ⟨g, 5, none⟩ = some (.int .i64 p5) := (cell_row (j := 5) HP1.out).trans rfl
  have b6 : W1.cell? ⟨g, 6, none⟩ = some (.int .i64 p6) := (cell_row (j := 6) HP1.out).trans rfl
  have b7 : W1.cell? ⟨g, 7, none⟩ = some (.int .i64 p7) := (cell_row (j := 7) HP1.out).trans rfl
  have b8 : W1.cell? ⟨g, 8, none⟩ = some (.int .i64 p8) := (cell_row (j := 8) HP1.out).trans rfl
  go_wp2_with fail
  refine (rPoint_any p0 p1 p2 p3 p4 p5 p6 p7 p8 W1).mono ?_
  rintro r w2 ⟨rfl, hb2⟩
  have HB2 := hid (HB1.out.trans (hb2.mono HB1.out.size))
  have HP2 := hid (heap_still hb2 HP1.out)
  have hs2 := Nat.lt_of_lt_of_le hs1 hb2.size
  clear hb2 b0 b1 b2 b3 b4 b5 b6 b7 b8
  cases hv : pointB p0 p1 p2 p3 p4 p5 p6 p7 && inB 0 255 p8
  · go_wp2_with fail
    refine (awake_any _).mono ?_
    rintro r w9 ⟨rfl, hb⟩
    have HB9 := hid (show Below w.heap.size w w9 from HB2.out.trans (hb.mono HB2.out.size))
    clear hb
    go_wp2_with fail
    go_ret
    exact ⟨rfl, HB9.out⟩
  have HOK := hid (show okP ⟨p0, p1, p2, p3, p4, p5, p6, p7, p8⟩ = true by
    unfold okP
    rw [Bool.and_comm]
    exact hv)
  clear hv
  obtain ⟨r3, hr3⟩ : ∃ r3, r3 = nn % 3 := ⟨_, rfl⟩
  have hr3b : r3 < 3 := by omega
  go_wp2_with fail
  go_loopw [5, 6] (fun ov iv W => ∃ i : Nat, i ≤ 1025 + r3 ∧ iv = .int .i64 (i : Int) ∧ MnRel w g ⟨p0, p1, p2, p3, p4, p5, p6, p7, p8⟩ i ov W) (fun _ iv _ => 2000 - (intOf iv).toNat)
  case atStart => exact ⟨0, by omega, rfl, _, p0, rfl, OwnR.nil _ _ _ _, HP2.out, HB2.out⟩
  case round =>
    obtain ⟨i, hi, rfl, ov, id, rfl, hov, hblk, hB⟩ := hrel
    have HOV := hid hov
    have HBL := hid hblk
    have HB4 := hid hB
    have hz4 := hB.size
    have hgw : g < wr.heap.size := (Array.getElem?_eq_some_iff.1 hblk).1
    clear hov hblk hB
    by_cases hle : i ≤ 1024 + r3
    · have d1 : decide ((i : Int) ≤ 1024 + (nn : Int) % 3) = true := decide_eq_true (by omega)
      have hle2 : (i : Int) ≤ 1024 + (nn : Int) % 3 := by omega
      have hn0 : 0 ≤ (nn : Int) % 3 := by omega
      have hn1 : (nn : Int) % 3 ≤ 2 := by omega
      go_upto_region 8 with (first | (refine pt_store1 rfl 3 (.tmp 25) (.tmp 24) rfl g 0 _ rfl rfl rfl rfl HBL.out size3 (by simp) ?_))
      refine gen_world (fun W7 hW7 => ?_)
      have HP7 := hid (show W7.heap[g]? = some (.cells #[.int .i64 (i : Int), .int .i64 p1, .int .i64 p2, .int .i64 p3, .int .i64 p4, .int .i64 p5, .int .i64 p6, .int .i64 p7, .int .i64 p8] 36) by rw [hW7]; exact setRow_heap _ _ _ _ _ _ HBL.out)
      have HB7 := hid (show Below w.heap.size w W7 by rw [hW7]; exact below_row HB4.out (by rw [← HG.out]; exact Nat.le_refl _))
      have HO7 := hid (show OwnP W7 (g + 1) ov (manyL ⟨p0, p1, p2, p3, p4, p5, p6, p7, p8⟩ i) by
        rw [hW7]
        exact OwnR.turned HOV.out (turned_row _ _ _) (fun b hb e => by have := OwnR.ownBlock HOV.out b hb; omega))
      have hg7 : g + 1 ≤ W7.heap.size := by rw [hW7, size_setRow]; omega
      clear hW7
      have b0 : W7.cell? ⟨g, 0, none⟩ = some (.int .i64 (i : Int)) := (cell_row (j := 0) HP7.out).trans rfl
      have b1 : W7.cell? ⟨g, 1, none⟩ = some (.int .i64 p1) := (cell_row (j := 1) HP7.out).trans rfl
      have b2 : W7.cell? ⟨g, 2, none⟩ = some (.int .i64 p2) := (cell_row (j := 2) HP7.out).trans rfl
      have b3 : W7.cell? ⟨g, 3, none⟩ = some (.int .i64 p3) := (cell_row (j := 3) HP7.out).trans rfl
      have b4 : W7.cell? ⟨g, 4, none⟩ = some (.int .i64 p4) := (cell_row (j := 4) HP7.out).trans rfl
      have b5 : W7.cell? ⟨g, 5, none⟩ = some (.int .i64 p5) := (cell_row (j := 5) HP7.out).trans rfl
      have b6 : W7.cell? ⟨g, 6, none⟩ = some (.int .i64 p6) := (cell_row (j := 6) HP7.out).trans rfl
      have b7 : W7.cell? ⟨g, 7, none⟩ = some (.int .i64 p7) := (cell_row (j := 7) HP7.out).trans rfl
      have b8 : W7.cell? ⟨g, 8, none⟩ = some (.int .i64 p8) := (cell_row (j := 8) HP7.out).trans rfl
      obtain ⟨C, hC⟩ : ∃ C : Array Value, C = #[.int .i64 (i : Int), .int .i64 p1, .int .i64 p2, .int .i64 p3, .int .i64 p4, .int .i64 p5, .int .i64 p6, .int .i64 p7, .int .i64 p8] := ⟨_, rfl⟩
      have HRK := hid (RowsAt.one (heap_alloc_at W7 _ _ rfl) : RowsAt (W7.alloc (.cells #[.int .i64 (i : Int), .int .i64 p1, .int .i64 p2, .int .i64 p3, .int .i64 p4, .int .i64 p5, .int .i64 p6, .int .i64 p7, .int .i64 p8] 36)) W7.heap.size 0 9 [[.int .i64 (i : Int), .int .i64 p1, .int .i64 p2, .int .i64 p3, .int .i64 p4, .int .i64 p5, .int .i64 p6, .int .i64 p7, .int .i64 p8]])
      have HOA := hid (OwnR.grow' HO7.out ((Below.refl _ _).alloc (Nat.le_refl _) _) : OwnR (W7.alloc (.cells #[.int .i64 (i : Int), .int .i64 p1, .int .i64 p2, .int .i64 p3, .int .i64 p4, .int .i64 p5, .int .i64 p6, .int .i64 p7, .int .i64 p8] 36)) (g + 1) 36 9 ov ((manyL ⟨p0, p1, p2, p3, p4, p5, p6, p7, p8⟩ i).map Pt.row))
      have HBA2 := hid (HB7.out.alloc HB7.out.size _ : Below w.heap.size w (W7.alloc (.cells #[.int .i64 (i : Int), .int .i64 p1, .int .i64 p2, .int .i64 p3, .int .i64 p4, .int .i64 p5, .int .i64 p6, .int .i64 p7, .int .i64 p8] 36)))
      have HPA := hid (heap_alloc_past W7 (.cells #[.int .i64 (i : Int), .int .i64 p1, .int .i64 p2, .int .i64 p3, .int .i64 p4, .int .i64 p5, .int .i64 p6, .int .i64 p7, .int .i64 p8] 36) _ _ HP7.out)
      have HL1 := hid (show ((manyL ⟨p0, p1, p2, p3, p4, p5, p6, p7, p8⟩ i).map Pt.row).length + 1 ≤ maxLen by rw [List.length_map, manyL_len]; unfold maxLen; omega)
      have HL2 := hid (show (((manyL ⟨p0, p1, p2, p3, p4, p5, p6, p7, p8⟩ i).map Pt.row).length + 1) * 72 ≤ 140737488355328 by rw [List.length_map, manyL_len]; omega)
      have HL3 := hid (show g + 1 ≤ (W7.alloc (.cells #[.int .i64 (i : Int), .int .i64 p1, .int .i64 p2, .int .i64 p3, .int .i64 p4, .int .i64 p5, .int .i64 p6, .int .i64 p7, .int .i64 p8] 36)).heap.size by simp; omega)
      obtain ⟨i0, hi0, hz0, hz1, hz2⟩ := info_parts info36
      have HI := hid hi0
      have HZ0 := hid hz0
      have HZ1 := hid hz1
      have HZ2 := hid hz2
      clear hi0 hz0 hz1 hz2 hC
      go_wp2_with (first
        | (at_builtin
           refine wpList_append_rows rfl (.tmp 26) (.tmp 28) 22 rfl (g + 1) 36 i0 _ 9 72 Try.underlying22 HI.out HZ0.out HZ1.out HZ2.out rfl (by decide) _ ((manyL ⟨p0, p1, p2, p3, p4, p5, p6, p7, p8⟩ i).map Pt.row) [[.int .i64 (i : Int), .int .i64 p1, .int .i64 p2, .int .i64 p3, .int .i64 p4, .int .i64 p5, .int .i64 p6, .int .i64 p7, .int .i64 p8]] rfl HOA.out W7.heap.size 0 1 1 rfl rfl HRK.out (wide9p _ _ _ _ _ _ _ _ _) HL1.out HL2.out HL3.out ?_
           intro v6 W6 hown6 hg6 z6
           clear z6
           have HO6 := hid (show OwnP W6 (g + 1) v6 (manyL ⟨p0, p1, p2, p3, p4, p5, p6, p7, p8⟩ (i + 1)) by unfold OwnP; rw [manyL_succ, List.map_append]; exact hown6)
           have HB6 := hid (show Below w.heap.size w W6 from HBA2.out.grown hg6 HBA2.out.size (fun k hk => by have := OwnR.ownBlock HOA.out k hk; rw [← HG.out]; omega))
           have HP6 := hid (show W6.heap[g]? = some (.cells #[.int .i64 (i : Int), .int .i64 p1, .int .i64 p2, .int .i64 p3, .int .i64 p4, .int .i64 p5, .int .i64 p6, .int .i64 p7, .int .i64 p8] 36) from (hg6.block g (by simp; omega) (fun e => by have := OwnR.ownBlock HOA.out g e.symm; omega)).trans HPA.out)
           clear hown6 hg6))
      exact ⟨⟨i + 1, by omega, by go_num, _, (i : Int), rfl, HO6.out, HP6.out, HB6.out⟩, by simp [intOf]; omega⟩
    · have d1 : decide ((i : Int) ≤ 1024 + (nn : Int) % 3) = false := decide_eq_false (by omega)
      have hle2 : ¬ (i : Int) ≤ 1024 + (nn : Int) % 3 := by omega
      have hi2 : i = 1025 + r3 := by omega
      obtain ⟨lg, lcap, lcur, hls, hlb, hlc, hlr, hlcap, hlm, _⟩ := OwnR.rows HOV.out (by rw [List.length_map, manyL_len]; omega)
      rw [List.length_map, manyL_len] at hls hlcap
      subst hls
      have HI2 := hid hi2
      have hilo : 1025 ≤ i := by omega
      have hihi : i ≤ 1027 := by omega
      have HLC := hid hlm
      have HBAD := hid (show goodL (manyL ⟨p0, p1, p2, p3, p4, p5, p6, p7, p8⟩ i) = false by
        rw [Bool.eq_false_iff]
        intro h
        have := ((goodL_iff _).1 h).1
        rw [manyL_len] at this
        omega)
      have HPT := hid (OwnP.ptsV HOV.out)
      have HRS := hid hlr
      have HLG := hid (Array.getElem?_eq_some_iff.1 hlc).1
      clear hi2 hle hle2 hlb hlc hlr hlm
      go_wp2_with fail
      refine (xlayout_any _ _ 64 wr HPT.out (by rw [manyL_len]; unfold maxLen; omega)).mono ?_
      rintro r w5 ⟨⟨va, e, E, rfl, hta, hla⟩, hb5⟩
      obtain rfl : e = 70 := hla.err.trans (by unfold layErr; rw [HBAD.out]; rfl)
      obtain rfl : E = [] := hla.bad (by rw [← hla.err]; decide)
      obtain ⟨⟨ea, ec, rfl, _⟩, _⟩ := hta
      have HB5 := hid (HB4.out.trans (hb5.mono hz4))
      have HR5 := hid (RowsAt.still HRS.out hb5 HLG.out)
      have HL5 := hid (Nat.lt_of_lt_of_le HLG.out hb5.size)
      clear hla hb5 HPT HOV HBL HRS HLG
      have HUC := hid (fun d os => many_cut (cap := lcap) (W := grow (redrawn w5 d) os) HOK.out (by omega) hilo (Nat.lt_of_lt_of_le HL5.out (below_regrown w5 d os).size) (RowsAt.still HR5.out (below_regrown w5 d os) HL5.out))
      have hc0 : ¬ lcap = 0 := by omega
      have hc1 : ¬ lcap = 1 := by omega
      have hc2 : (1025 : Int) ≤ (lcap : Int) := by omega
      have hc3 : 1025 ≤ lcap := by omega
      have hc4 : (1 : Int) ≤ (lcap : Int) := by omega
      go_wp2_with fail
      refine wp_region_quiet_below (by kernel_rfl) (by kernel_rfl) ?_
      repeat (first | go_big_quiet_step ((go_at_call 31; with_reducible exact Calls.regrown_of (HUC.out _ _))) | quiet_step ((go_at_call 31; with_reducible exact Calls.regrown_of (HUC.out _ _))))
      refine wpQuiet_nil ?_
      intro _ hw'
      obtain ⟨⟨dqV, osV⟩, hw2⟩ := hw'
      subst hw2
      have HQV := hid (below_regrown w5 dqV osV)
      generalize Sort.grow (redrawn w5 dqV) osV = V at HQV ⊢
      have hsV := HQV.out.size
      have HBV := hid (HB5.out.trans (HQV.out.mono HB5.out.size))
      go_wp2_with fail
      refine (awake_any _).mono ?_
      rintro r w9 ⟨rfl, hb⟩
      have HB9 := hid (show Below w.heap.size w w9 from HBV.out.trans (hb.mono HBV.out.size))
      clear hb
      go_wp2_with fail
      go_ret
      exact ⟨rfl, HB9.out⟩
theorem many_args (W : World) (v0 v1 : Value) (ps : List Int) (n : Int) (hp : ps.length = 9) (h0 : v0 = .agg (ps.map (Value.int .i64)).toArray) (h1 : v1 = .int .u8 n) (hn : 0 ≤ n ∧ n < 256) :
    Calls Try.prog 7 #[v0, v1] W fun e w' => e = .returned (.bool true) ∧ Below W.heap.size W w' := by
  subst h0 h1
  obtain ⟨k, rfl⟩ : ∃ k : Nat, n = (k : Int) := ⟨n.toNat, by omega⟩
  match ps, hp with
  | [a, b, c, d, e, f, g, h, i], _ => exact many_law a b c d e f g h i k (by omega) W
set_option maxRecDepth 100000 in
theorem tileMany_lifted (os : Os) (started : os.Started) (H : Type) (enc : TypeId × Value → H) :
    ReturnsInHanded {} Try.checked os 7 .any (Rows.tileManySpec.pre6 enc Try.prog Try.f7 Rows.tileManyRow.domain false) (Rows.tileManySpec.post enc Try.prog Try.f7 false true false false) := by
  refine law_lifted (C := Try.checked) (tb := 4) lawOwn started (by kernel_rfl) Try.func7 rfl ?_ (show Try.f7.resultTypes = #[4] by kernel_rfl) Try.underlying4 lawLaid ?_
    (ChangeSpec.witness6 (enc := enc) (C := Try.checked) false ⟨#[], #[.agg #[.int .i64 0, .int .i64 0, .int .i64 0, .int .i64 0, .int .i64 0, .int .i64 0, .int .i64 0, .int .i64 0, .int .i64 0], .int .u8 0], []⟩ 8 (by kernel_rfl) (by kernel_rfl) (by kernel_rfl) (by kernel_rfl)) ?_
  · intro ds hds
    match ds, hds with
    | [d1, d2], _ => exact ⟨rfl, rfl, rfl⟩
  · rw [Try.params7]
    intro t ht
    simp at ht
    rcases ht with rfl | rfl
    all_goals exact ⟨by kernel_rfl, of_decide_eq_true (by kernel_rfl)⟩
  · intro W base args ds p hval hA hlt _
    change DataW.TrodAll enc Try.prog W 0 (fun _ => true) true Try.f7.params.toList args.toList ds p at hA
    change ∀ (j : Nat) t v, Try.f7.params[j]? = some t → args[j]? = some v → Value.okWide Try.prog W .any base t v at hval
    rw [Try.params7] at hA hval
    obtain ⟨v0, vs0, d0, ds0, p0, q0, hargs, rfl, rfl, h0, r0⟩ := trodAll_cons hA
    obtain ⟨v1, vs1, d1, ds1, p1, q1, rfl, rfl, rfl, h1, r1⟩ := trodAll_cons r0
    obtain ⟨rfl, rfl, rfl⟩ := trodAll_nil r1
    obtain rfl : args = #[v0, v1] := by cases args; simp_all
    obtain ⟨c0, e0, f0⟩ := open_flat lawFlat36 lawSize36 (by kernel_rfl) (hval 0 36 v0 rfl rfl) h0
    obtain ⟨n, rfl, _, _, hw⟩ := open_int Try.underlying5 (hval 1 5 v1 rfl rfl) h1
    obtain ⟨xs, ha, rfl⟩ := lawCells f0
    exact many_args W v0 _ xs n ha e0 rfl (by
      simp [Lit.wf] at hw
      have h1 : IntKind.u8.min = 0 := rfl
      have h2 : IntKind.u8.max = 255 := rfl
      omega)
/-- TileMany, whatever the input. -/
theorem tileMany_holds : Rows.TileManySaid :=
  OpenClaim.holds_of_wide 7 Try.f7 rfl rfl rfl rfl rfl rfl rfl ⟨rfl, rfl, rfl, rfl, rfl⟩ rfl rfl rfl rfl rfl (by kernel_rfl) Try.func7 (by kernel_rfl)
    (of_decide_eq_true (by kernel_rfl)) (by unfold Func.isWrapper; rw [if_neg (of_decide_eq_false (by kernel_rfl))]; exact ⟨rfl, rfl⟩)
    (fun os started H enc _ => tileMany_lifted os started H enc)
#print axioms tileMany_holds
end Go.Proofs.Yteanlcefdoigcaa
