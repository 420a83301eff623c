/- TopArchive: an archive whose disk loses power at any operation of a call, and again while it is opened, is behind it in the state before the call or in that after it; its tiles are the layout of its points. Every input, no condition. -/
import Derived.Test.YtcclpdfmmdonpaaGreatXTopJ
import Derived.SizedLaws
namespace Go.Proofs.YtcclpdfmmdonpaaGreat
open Go.ChangeShapes Go.WideShapes Go.ChangeAt Go.RowKit Go.Maps Go.Sort
theorem topCells3 : Tryz.prog.cellsOf 3 = 1 := by kernel_rfl
theorem topCells37 : Tryz.prog.cellsOf 37 = 2 := by kernel_rfl
theorem topCells38 : Tryz.prog.cellsOf 38 = 2 := by kernel_rfl
theorem topCells40 : Tryz.prog.cellsOf 40 = 10 := by kernel_rfl
theorem topCells4 : Tryz.prog.cellsOf 4 = 1 := by kernel_rfl
theorem topFlat3 : flatOf Tryz.prog 10 3 = some [some .i64] := by kernel_rfl
theorem topFlat38 : flatOf Tryz.prog 10 38 = some [some .i64, some .i64] := by kernel_rfl
theorem wf_i64_lt {n : Int} (h : (Lit.int .i64 n).wf = true) : -9223372036854775808 <= n /\ n <= 9223372036854775807 := by
  simp [Lit.wf, IntKind.min, IntKind.max, IntKind.signed, IntKind.bits] at h; omega
section
variable {H : Type} {enc : TypeId × Value -> H} {w : World} {base : Nat} {spare : Nat -> Bool} {held : Bool}
set_option maxRecDepth 100000 in
theorem ints_nil {fuel : Nat} {v : Value} {x : DataW H × List MemPlace} (hx : DataW.trod enc Tryz.prog w base spare held fuel 30 [v] = some x) : NilV v := by
  obtain ⟨a, len, cap, rfl, hl, hn, hr⟩ := open_cell_rows Tryz.underlying30 lawFlat3 lawSize3 (by decide) hx; intro c h; injection h with h1 h2 h3
  subst h3; exact (hn h1).2
set_option maxRecDepth 100000 in
theorem sk_cells {fuel : Nat} {cs : List Value} {x : DataW H × List MemPlace} (hl : cs.length = 10) (hx : DataW.trod enc Tryz.prog w base spare held fuel 40 cs = some x) :
    ∃ p : Sk, cs = p.row /\ SkOk w p := by
  obtain ⟨xs, m, _, _, _, hxl, hf⟩ := DataW.trod_struct Tryz.underlying40 hx
  match cs, hl with
  | [c0, c1, c2, c3, c4, c5, c6, c7, c8, c9], _ =>
    have h0 := hf 0 _ rfl; rw [List.getElem?_eq_getElem (by rw [hxl]; decide)] at h0; have h1 := hf 1 _ rfl; rw [List.getElem?_eq_getElem (by rw [hxl]; decide)] at h1; have h2 := hf 2 _ rfl; rw [List.getElem?_eq_getElem (by rw [hxl]; decide)] at h2; have h3 := hf 3 _ rfl; rw [List.getElem?_eq_getElem (by rw [hxl]; decide)] at h3; have h4 := hf 4 _ rfl; rw [List.getElem?_eq_getElem (by rw [hxl]; decide)] at h4; have h5 := hf 5 _ rfl; rw [List.getElem?_eq_getElem (by rw [hxl]; decide)] at h5; have h6 := hf 6 _ rfl; rw [List.getElem?_eq_getElem (by rw [hxl]; decide)] at h6; obtain ⟨fg, hfg⟩ : ∃ fg, c0 = .bool fg := by
      obtain ⟨V, hc, _⟩ := DataW.trod_bool Tryz.underlying4 h0; simp [topCells4] at hc; exact ⟨_, hc⟩
    subst hfg; obtain ⟨p1, _, e1, hw1, _⟩ := fits_int (show fitsW (some .i64 :: []) _ from trod_flat 10 3 _ _ _ _ topFlat3 (by simp [topCells3]) h1); simp [topCells3] at e1; obtain ⟨rfl, _⟩ := e1; obtain ⟨p4, _, e4, _, _⟩ := fits_int (show fitsW (some .i64 :: []) _ from trod_flat 10 3 _ _ _ _ topFlat3 (by simp [topCells3]) h3); simp [topCells3] at e4; obtain ⟨rfl, _⟩ := e4; obtain ⟨p5, _, e5, _, _⟩ := fits_int (show fitsW (some .i64 :: []) _ from trod_flat 10 3 _ _ _ _ topFlat3 (by simp [topCells3]) h4); simp [topCells3] at e5; obtain ⟨rfl, _⟩ := e5; have hk : fitsW [some .i64, some .i64] [c6, c7] := by simpa [topCells3, topCells4, topCells37, topCells38] using trod_flat 10 38 _ _ _ _ topFlat38 (by simp [topCells38]) h5
    obtain ⟨p6, vs, e6, _, hk2⟩ := fits_int hk; obtain ⟨p7, vs2, e7, _, _⟩ := fits_int hk2; injection e6 with e6 e8
    subst e6 e8; injection e7 with e7 e9
    subst e7; have hq : fitsW [some .i64, some .i64] [c8, c9] := by simpa [topCells3, topCells4, topCells37, topCells38] using trod_flat 10 38 _ _ _ _ topFlat38 (by simp [topCells38]) h6
    obtain ⟨p8, vt, e6, _, hq2⟩ := fits_int hq; obtain ⟨p9, vt2, e7, _, _⟩ := fits_int hq2; injection e6 with e6 e8
    subst e6 e8; injection e7 with e7 e9
    subst e7; obtain ⟨ys, m', _, _, _, hyl, hg⟩ := DataW.trod_struct Tryz.underlying37 (show DataW.trod enc Tryz.prog w base spare held m 37 [c2, c3] = _ from by simpa [topCells3, topCells4, topCells37] using h2); have g0 := hg 0 _ rfl; rw [List.getElem?_eq_getElem (by rw [hyl]; decide)] at g0; have g1 := hg 1 _ rfl; rw [List.getElem?_eq_getElem (by rw [hyl]; decide)] at g1; obtain ⟨A, q1, q2, q3⟩ := pts_cell (v := c2) (by simpa [cells22u] using g0); obtain ⟨R, q4, q5, q6⟩ := ints_cell (v := c3) (by simpa [cells30] using g1); have q7 : NilV c3 := ints_nil (by simpa [cells30] using g1); exact ⟨⟨fg, p1, c2, c3, A, R, p4, p5, p6, p7, p8, p9⟩, rfl, ⟨q1, q2, q3, q4, q7, q5, q6, (wf_i64_lt hw1).2⟩⟩
set_option maxRecDepth 100000 in
theorem open_sks {r : Reach} {b0 : Nat} {v : Value} {d : DataW H} {p : List MemPlace} (hv : Value.okWide Tryz.prog w r b0 22 v) (h : DataW.Trod enc Tryz.prog w base spare held 22 v d p) :
    ∃ (a : Option Addr) (cap : Nat) (L : List Sk), v = .slice a L.length cap /\ L.length <= maxLen /\ ∀ i p, L[i]? = some p -> (∃ b off, a = some ⟨b, off, none⟩ /\ b < w.heap.size /\ ∀ j, j < 10 -> w.cell? ⟨b, off + i * 10 + j, none⟩ = p.row[j]?) /\ SkOk w p := by
  obtain ⟨a0, len, cap, rfl⟩ := Go.WideShapes.okWide_slice Tryz.underlying22 hv; obtain ⟨fuel, hx⟩ := h
  rcases Go.Deep.open_slice Tryz.underlying22 hx with ⟨h0, _⟩ | ⟨a, len', cap', m, n, D, Pl, h1, hb, hl, hm, hmm, _, hall⟩
  · simp [Value.cells] at h0; obtain ⟨rfl, rfl, rfl⟩ := h0; exact ⟨none, 0, [], rfl, by simp, fun i p h => by simp at h⟩
  · simp [Value.cells] at h1; obtain ⟨rfl, rfl, rfl⟩ := h1; by_cases h0 : len = 0
    · subst h0; exact ⟨some a, cap, [], rfl, by simp, fun i p h => by simp at h⟩
    have hle : len <= m := by rw [hmm]; split <;> omega
    have hmx : len <= maxLen := by omega
    rw [topCells40] at hall
    obtain ⟨E, h1, h2⟩ := list_of (R := fun i (e : Sk) => SkOk w e /\ ∀ j, j < 10 -> w.cell? ((a.add (i * 10)).add j) = e.row[j]?) len (fun i hi => by
      obtain ⟨cs, hc, ht⟩ := hall i (by omega); obtain ⟨_, hlen, hcell⟩ := World.cells?_some hc; obtain ⟨e, rfl, h5⟩ := sk_cells hlen ht
      exact ⟨e, h5, hcell⟩)
    subst h1; obtain ⟨b, off, spot⟩ := a; have hpos : 0 < E.length := by omega
    have hspot : spot = none := by
      have h0 := (h2 0 _ (List.getElem?_eq_getElem hpos)).2 0 (by omega); exact (by simpa [Addr.add] using World.cell?_spot (v := .bool (E[0]).fg) (h0.trans rfl))
    subst hspot; have hr : ∀ i p, E[i]? = some p -> ∀ j, j < 10 -> w.cell? ⟨b, off + i * 10 + j, none⟩ = p.row[j]? := fun i e he j hj => by
      rw [<- (h2 i e he).2 j hj, <- Go.WideShapes.add_plain, <- Go.WideShapes.add_plain]
    have hb : b < w.heap.size := by
      have h0 := hr 0 (E[0]) (List.getElem?_eq_getElem hpos) 0 (by omega); exact cell_lt (h0.trans rfl)
    exact ⟨_, cap, E, rfl, hmx, fun i p hp => ⟨⟨b, off, rfl, hb, hr i p hp⟩, (h2 i p hp).1⟩⟩
end
set_option maxRecDepth 100000 in
theorem topArchive_lifted (os : Os) (started : os.Started) (H : Type) (enc : TypeId × Value -> H) :
    ReturnsInHanded {} Tryz.checked os 3 .any (Rows.topArchiveSpec.pre6 enc Tryz.prog Tryz.f3 Rows.topArchiveRow.domain false) (Rows.topArchiveSpec.post enc Tryz.prog Tryz.f3 false true false false) := by
  refine law_lifted (C := Tryz.checked) (tb := 4) lawOwn started (by kernel_rfl) Tryz.func3 rfl ?_ (show Tryz.f3.resultTypes = #[4] by kernel_rfl) Tryz.underlying4 lawLaid ?_
    (ChangeSpec.witness6 (enc := enc) (C := Tryz.checked) false ⟨#[], #[.int .i64 1, .slice none 0 0], []⟩ 8 (by kernel_rfl) (by kernel_rfl) (by kernel_rfl) (by kernel_rfl)) ?_
  · intro ds hds
    match ds, hds with
    | [d1, d2], _ => exact ⟨rfl, rfl, rfl⟩
  · rw [Tryz.params3]; intro t ht; simp at ht
    rcases ht with rfl | rfl
    all_goals exact ⟨by kernel_rfl, of_decide_eq_true (by kernel_rfl)⟩
  · intro W base args ds p hval hA hlt _; change DataW.TrodAll enc Tryz.prog W 0 (fun _ => true) true Tryz.f3.params.toList args.toList ds p at hA; change ∀ (j : Nat) t v, Tryz.f3.params[j]? = some t -> args[j]? = some v -> Value.okWide Tryz.prog W .any base t v at hval; rw [Tryz.params3] at hA hval; obtain ⟨v0, vs0, d0, ds0, p0, q0, hargs, rfl, rfl, h0, r0⟩ := trodAll_cons hA; obtain ⟨v1, vs1, d1, ds1, p1, q1, rfl, rfl, rfl, h1, r1⟩ := trodAll_cons r0; obtain ⟨rfl, rfl, rfl⟩ := trodAll_nil r1; obtain rfl : args = #[v0, v1] := by cases args; simp_all
    obtain ⟨n, rfl, _, _, hw⟩ := open_int Tryz.underlying3 (hval 0 3 v0 rfl rfl) h0; obtain ⟨a, cap, L, rfl, hn, hL⟩ := open_sks (hval 1 22 v1 rfl rfl) h1; exact top_law n a cap L W (wf_i64_lt hw) hn hL
theorem topArchive_holds : Rows.TopArchiveSaid :=
  OpenClaim.holds_of_wide 3 Tryz.f3 rfl rfl rfl rfl rfl rfl rfl ⟨rfl, rfl, rfl, rfl, rfl⟩ rfl rfl rfl rfl rfl (by kernel_rfl) Tryz.func3 (by kernel_rfl)
    (of_decide_eq_true (by kernel_rfl)) (by unfold Func.isWrapper; rw [if_neg (of_decide_eq_false (by kernel_rfl))]; exact ⟨rfl, rfl⟩)
    (fun os started H enc _ => topArchive_lifted os started H enc)
#print axioms topArchive_holds
end Go.Proofs.YtcclpdfmmdonpaaGreat
