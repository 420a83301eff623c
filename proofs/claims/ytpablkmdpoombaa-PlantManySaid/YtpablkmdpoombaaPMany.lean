/- PlantMany: strip data with too many pulses or too many navigation records are not valid, whatever they are. Every input, no condition. (Printed by wip/gen_pmany.py.) -/
import Derived.Test.YtpablkmdpoombaaRecLaw
import Derived.Test.YtpablkmdpoombaaAidE
namespace Go.Proofs.Ytpablkmdpoombaa
open Go.ChangeShapes Go.WideShapes Go.ChangeAt Go.RowKit Go.Maps Go.Sort

theorem info51 : (Try.prog.info? 51).map (fun i => (i.zero, i.size, i.bytes)) = some (some (.agg #[.int .i64 0, .int .i64 0, .int .i64 0, .int .i64 0, .int .i64 0, .int .i64 0, .slice none 0 0]), 7, 72) := by kernel_rfl
theorem info45 : (Try.prog.info? 45).map (fun i => (i.zero, i.size, i.bytes)) = some (some (.agg #[.bool false, .int .i64 0, .int .i64 0, .int .i64 0, .int .i64 0, .int .i64 0, .int .i64 0, .int .i64 0, .int .i64 0, .int .i64 0, .int .i64 0, .int .i64 0, .int .i64 0, .int .i64 0]), 14, 112) := by kernel_rfl
set_option maxRecDepth 100000 in
theorem strip_pulses (a : Option Addr) (n c : Nat) (b : Option Addr) (m d : Nat) (w : World) (hn : 256 < n) :
    Calls Try.prog 16 #[.agg #[.slice a n c, .slice b m d]] w fun r w' => r = .returned (.bool false) ∧ Below w.heap.size w w' := by
  have d0 : decide ((256 : Int) < (n : Int)) = true := decide_eq_true (by omega)
  go_enter Try.func16, Try.ntmps16
  go_wp2_with fail
  go_ret
  exact ⟨rfl, (Below.refl _ _).alloc (Nat.le_refl _) _⟩
set_option maxRecDepth 100000 in
theorem strip_navs (a : Option Addr) (c : Nat) (b : Option Addr) (m d : Nat) (w : World) (hm : 4096 < m) :
    Calls Try.prog 16 #[.agg #[.slice a 0 c, .slice b m d]] w fun r w' => r = .returned (.bool false) ∧ Below w.heap.size w w' := by
  have d0 : decide ((4096 : Int) < (m : Int)) = true := decide_eq_true (by omega)
  go_enter Try.func16, Try.ntmps16
  go_wp2_with fail
  go_ret
  exact ⟨rfl, (Below.refl _ _).alloc (Nat.le_refl _) _⟩
set_option maxRecDepth 100000 in
theorem strip_none (w : World) :
    Calls Try.prog 16 #[.agg #[.slice none 0 0, .slice none 0 0]] w fun r w' => r = .returned (.bool true) ∧ Below w.heap.size w w' := by
  have hmm := fun (W : World) => (show (Instr.makeMap 99 none).run Try.prog W = .ok (.map (some W.heap.size)) (W.alloc (.map #[] 0)) by simp [Instr.makeMap, newObj]; rfl)
  go_enter Try.func16, Try.ntmps16
  go_wp2_with fail
  refine wp_loop_rounds 1 ?_
  rw [rounds_succ]
  go_wp2_with fail
  refine wp_loop_rounds 1 ?_
  rw [rounds_succ]
  go_wp2_with fail
  go_ret
  exact ⟨rfl, ((Below.refl _ _).alloc (Nat.le_refl _) _).alloc (by simp) _⟩
/-- what stands while the lists grow -/
structure GrowP (ka : Bool) (w W : World) (PC NC : Array Value) (va vb : Value) (i j : Nat) : Prop where
  pb : W.heap[w.heap.size]? = some (.cells PC 38)
  nb : W.heap[w.heap.size + 1]? = some (.cells NC 45)
  ar : W.heap[w.heap.size + 1 + 1]? = some (.cells #[va, .slice none 0 0] 49)
  br : W.heap[w.heap.size + 1 + 1 + 1]? = some (.cells #[.slice none 0 0, vb] 49)
  al : ka = true → ∃ rows, rows.length = i ∧ OwnR W (w.heap.size + 4) 51 7 va rows
  bl : ∃ rows, rows.length = j ∧ OwnR W (w.heap.size + 4) 45 14 vb rows
  be : Below w.heap.size w W
theorem GrowP.lt {ka : Bool} {w W : World} {PC NC : Array Value} {va vb : Value} {i j : Nat} (h : GrowP ka w W PC NC va vb i j) : w.heap.size + 3 < W.heap.size := (Array.getElem?_eq_some_iff.1 h.br).1
theorem OwnR.set {W : World} {base t sz g j : Nat} {v u : Value} {l : List (List Value)} (h : OwnR W base t sz v l) (hg : g < base) : OwnR (W.setCell ⟨g, j, none⟩ u) base t sz v l :=
  OwnR.heap h fun k x hx hk => by rw [Below.heap_setCell W ⟨g, j, none⟩ u k (fun e => by have h1 : k = g := e; omega)]; exact hx
theorem len_snoc {rows : List (List Value)} {R : List Value} {i : Nat} (h : rows.length = i) : (rows ++ [R]).length = i + 1 := by simp [h]
theorem heap_other {w : World} {g j n : Nat} {x : Obj} (h : w.heap[n]? = some x) (hne : n ≠ g) (v : Value) : (w.setCell ⟨g, j, none⟩ v).heap[n]? = some x := by
  rw [Below.heap_setCell w ⟨g, j, none⟩ v n hne]; exact h
set_option maxRecDepth 100000 in
set_option maxHeartbeats 6400000 in
theorem many_law (p0 p1 p2 p3 p4 : Int) (sa : Option Addr) (sn sc : Nat) (n0 : Bool) (n1 n2 n3 n4 n5 n6 n7 n8 n9 n10 n11 n12 n13 : Int) (mo : Nat) (w : World) (hmo : mo < 256) :
    Calls Try.prog 5 #[.agg #[.int .i64 p0, .int .i64 p1, .int .i64 p2, .int .i64 p3, .int .i64 p4, .slice sa sn sc], .agg #[.bool n0, .int .i64 n1, .int .i64 n2, .int .i64 n3, .int .i64 n4, .int .i64 n5, .int .i64 n6, .int .i64 n7, .int .i64 n8, .int .i64 n9, .int .i64 n10, .int .i64 n11, .int .i64 n12, .int .i64 n13], .int .u8 (mo : Nat)] w fun r w' => r = .returned (.bool true) ∧ Below w.heap.size w w' := by
  by_cases h48 : 48 < sn
  · have d0 : decide ((48 : Int) < (sn : Int)) = true := decide_eq_true (by omega)
    go_enter Try.func5, Try.ntmps5
    go_wp2_with fail
    refine (pawake_any _).mono ?_
    rintro r w4 ⟨rfl, hb4⟩
    go_wp2_with fail
    go_ret
    exact ⟨rfl, (((Below.refl _ _).alloc (Nat.le_refl _) _).alloc (by simp) _).trans (hb4.mono (by simp; omega))⟩
  have d0 : decide ((48 : Int) < (sn : Int)) = false := decide_eq_false (by omega)
  obtain ⟨M, hM⟩ : ∃ M, M = 256 + mo % 3 := ⟨_, rfl⟩
  have HM := hid (show (mo : Int) % 3 = (M : Int) - 256 by omega)
  have hM1 : 256 ≤ M ∧ M ≤ 258 := by omega
  have G0 := hid (show GrowP true w ((((w.alloc (.cells #[.int .i64 p0, .int .i64 p1, .int .i64 p2, .int .i64 p3, .int .i64 p4, .slice sa sn sc] 38)).alloc (.cells #[.bool n0, .int .i64 n1, .int .i64 n2, .int .i64 n3, .int .i64 n4, .int .i64 n5, .int .i64 n6, .int .i64 n7, .int .i64 n8, .int .i64 n9, .int .i64 n10, .int .i64 n11, .int .i64 n12, .int .i64 n13] 45)).alloc (.cells #[.slice none 0 0, .slice none 0 0] 49)).alloc (.cells #[.slice none 0 0, .slice none 0 0] 49)) #[.int .i64 p0, .int .i64 p1, .int .i64 p2, .int .i64 p3, .int .i64 p4, .slice sa sn sc] #[.bool n0, .int .i64 n1, .int .i64 n2, .int .i64 n3, .int .i64 n4, .int .i64 n5, .int .i64 n6, .int .i64 n7, .int .i64 n8, .int .i64 n9, .int .i64 n10, .int .i64 n11, .int .i64 n12, .int .i64 n13] (.slice none 0 0) (.slice none 0 0) 0 0 from
    ⟨heap_alloc_past _ _ _ _ (heap_alloc_past _ _ _ _ (heap_alloc_past _ _ _ _ (heap_alloc_at _ _ _ rfl))),
     heap_alloc_past _ _ _ _ (heap_alloc_past _ _ _ _ (heap_alloc_at _ _ _ (by simp))),
     heap_alloc_past _ _ _ _ (heap_alloc_at _ _ _ (by simp)), heap_alloc_at _ _ _ (by simp), fun _ => ⟨[], rfl, OwnR.nil _ _ _ _⟩, ⟨[], rfl, OwnR.nil _ _ _ _⟩,
     ((((Below.refl _ _).alloc (Nat.le_refl _) _).alloc (by simp) _).alloc (by simp; omega) _).alloc (by simp; omega) _⟩)
  obtain ⟨i51, hi, hy0, hy1, hy2⟩ := info_parts info51
  have HI := hid hi
  have HZ0 := hid hy0
  have HZ1 := hid hy1
  have HZ2 := hid hy2
  obtain ⟨i45, hi', hy0', hy1', hy2'⟩ := info_parts info45
  have HI' := hid hi'
  have HZ0' := hid hy0'
  have HZ1' := hid hy1'
  have HZ2' := hid hy2'
  clear hM hi hy0 hy1 hy2 hi' hy0' hy1' hy2'
  go_enter Try.func5, Try.ntmps5
  go_wp2_with fail
  generalize ((((w.alloc (.cells #[.int .i64 p0, .int .i64 p1, .int .i64 p2, .int .i64 p3, .int .i64 p4, .slice sa sn sc] 38)).alloc (.cells #[.bool n0, .int .i64 n1, .int .i64 n2, .int .i64 n3, .int .i64 n4, .int .i64 n5, .int .i64 n6, .int .i64 n7, .int .i64 n8, .int .i64 n9, .int .i64 n10, .int .i64 n11, .int .i64 n12, .int .i64 n13] 45)).alloc (.cells #[.slice none 0 0, .slice none 0 0] 49)).alloc (.cells #[.slice none 0 0, .slice none 0 0] 49)) = W2 at *
  go_loopw [9] (fun iv W => ∃ i va, i ≤ M + 1 ∧ iv = .int .i64 (i : Int) ∧ GrowP true w W #[.int .i64 p0, .int .i64 p1, .int .i64 p2, .int .i64 p3, .int .i64 p4, .slice sa sn sc] #[.bool n0, .int .i64 n1, .int .i64 n2, .int .i64 n3, .int .i64 n4, .int .i64 n5, .int .i64 n6, .int .i64 n7, .int .i64 n8, .int .i64 n9, .int .i64 n10, .int .i64 n11, .int .i64 n12, .int .i64 n13] va (.slice none 0 0) i 0) (fun iv _ => M + 1 - (intOf iv).toNat)
  case atStart => exact ⟨0, _, by omega, rfl, G0.out⟩
  case round =>
    obtain ⟨i, va, hi, rfl, hg⟩ := hrel
    have HG := hid hg
    have hmm := HM.out
    by_cases hlt : i ≤ M
    · have d1 : decide ((i : Int) ≤ 256 + ((M : Int) - 256)) = true := decide_eq_true (by omega)
      obtain ⟨rows, hrl, hown⟩ := HG.out.al rfl
      obtain ⟨oa, oc, rfl⟩ := OwnR.slice hown
      have HRL := hid hrl
      rw [hrl] at HG
      rw [hrl] at hown
      clear hrl
      have hlt0 := HG.out.lt
      have c0 : wr.cell? ⟨w.heap.size + 1 + 1, 0, none⟩ = some (.slice oa i oc) := (cell_row (j := 0) HG.out.ar).trans rfl
      have e0 : wr.cell? ⟨w.heap.size, 0, none⟩ = some (.int .i64 p0) := (cell_row (j := 0) HG.out.pb).trans rfl
      have e1 : wr.cell? ⟨w.heap.size, 1, none⟩ = some (.int .i64 p1) := (cell_row (j := 1) HG.out.pb).trans rfl
      have e2 : wr.cell? ⟨w.heap.size, 2, none⟩ = some (.int .i64 p2) := (cell_row (j := 2) HG.out.pb).trans rfl
      have e3 : wr.cell? ⟨w.heap.size, 3, none⟩ = some (.int .i64 p3) := (cell_row (j := 3) HG.out.pb).trans rfl
      have e4 : wr.cell? ⟨w.heap.size, 4, none⟩ = some (.int .i64 p4) := (cell_row (j := 4) HG.out.pb).trans rfl
      have e5 : wr.cell? ⟨w.heap.size, 5, none⟩ = some (.slice sa sn sc) := (cell_row (j := 5) HG.out.pb).trans rfl
      have HRK := hid (RowsAt.one (heap_alloc_at wr _ _ rfl) : RowsAt (wr.alloc (.cells #[.int .i64 (i : Int), .int .i64 p0, .int .i64 p1, .int .i64 p2, .int .i64 p3, .int .i64 p4, .slice sa sn sc] 51)) wr.heap.size 0 7 [[.int .i64 (i : Int), .int .i64 p0, .int .i64 p1, .int .i64 p2, .int .i64 p3, .int .i64 p4, .slice sa sn sc]])
      have HOA := hid (OwnR.grow (W' := wr.alloc (.cells #[.int .i64 (i : Int), .int .i64 p0, .int .i64 p1, .int .i64 p2, .int .i64 p3, .int .i64 p4, .slice sa sn sc] 51)) hown ((Below.refl _ _).alloc (Nat.le_refl _) _))
      have HL1 := hid (show rows.length + 1 ≤ maxLen by rw [HRL.out]; unfold maxLen; omega)
      have HL2 := hid (show (rows.length + 1) * 72 ≤ 140737488355328 by rw [HRL.out]; omega)
      have HBS := hid (show w.heap.size + 4 ≤ (wr.alloc (.cells #[.int .i64 (i : Int), .int .i64 p0, .int .i64 p1, .int .i64 p2, .int .i64 p3, .int .i64 p4, .slice sa sn sc] 51)).heap.size by simp; omega)
      have HWD := hid (show Wide 7 [[.int .i64 (i : Int), .int .i64 p0, .int .i64 p1, .int .i64 p2, .int .i64 p3, .int .i64 p4, .slice sa sn sc]] from Wide.one rfl (fun v hv => by simp at hv; rcases hv with rfl | rfl | rfl | rfl | rfl | rfl | rfl <;> rfl))
      clear hown
      go_wp2_with (first
        | (at_builtin
           go_loud (refine wpList_append_rows rfl (.tmp 25) (.tmp 29) 46 rfl (w.heap.size + 4) 51 i51 _ 7 72 Try.underlying46 HI.out HZ0.out HZ1.out HZ2.out rfl (by decide) _ rows [[.int .i64 (i : Int), .int .i64 p0, .int .i64 p1, .int .i64 p2, .int .i64 p3, .int .i64 p4, .slice sa sn sc]] rfl HOA.out wr.heap.size 0 1 1 rfl rfl HRK.out HWD.out HL1.out HL2.out HBS.out ?_)
           intro v10 W6 hown6 hg6 z6
           clear z6
           have hsl := OwnR.slice hown6
           rw [len_snoc HRL.out] at hsl
           obtain ⟨oa6, oc6, rfl⟩ := hsl
           have hne : ∀ k, k < w.heap.size + 4 → some k ≠ (Value.slice oa i oc).ownBlock := fun k hk e => by
             have := OwnR.ownBlock HOA.out k e.symm
             omega
           have hkeep : ∀ k x, k < w.heap.size + 4 → wr.heap[k]? = some x → W6.heap[k]? = some x := fun k x hk hx => (hg6.block k (by simp; omega) (hne k hk)).trans (heap_alloc_past _ _ _ _ hx)
           have HPB := hid (hkeep _ _ (by omega) HG.out.pb)
           have HNB := hid (hkeep _ _ (by omega) HG.out.nb)
           have HAR := hid (hkeep _ _ (by omega) HG.out.ar)
           have HBR := hid (hkeep _ _ (by omega) HG.out.br)
           have HON := hid hown6
           have HGB := hid hg6
           have HKP := hid hkeep
           have HNE := hid hne
           have c6 : W6.cell? ⟨w.heap.size + 1 + 1, 0, none⟩ = some (.slice oa i oc) := (cell_row (j := 0) HAR.out).trans rfl
           have f6 : W6.frozen? ⟨w.heap.size + 1 + 1, 0, none⟩ = false := by have hh := HAR.out; simp [World.frozen?, hh]
           clear hown6 hg6 hkeep hne))
      exact ⟨⟨i + 1, .slice oa6 (i + 1) oc6, by omega, by go_num, ⟨heap_other HPB.out (by omega) _, heap_other HNB.out (by omega) _, heap_setCell HAR.out _, heap_other HBR.out (by omega) _, fun _ => ⟨rows ++ [[.int .i64 (i : Int), .int .i64 p0, .int .i64 p1, .int .i64 p2, .int .i64 p3, .int .i64 p4, .slice sa sn sc]], len_snoc HRL.out, OwnR.set HON.out (by omega)⟩, ⟨[], rfl, OwnR.nil _ _ _ _⟩, ((HG.out.be.alloc (by omega) _).grown HGB.out (by simp; omega) (fun k e => by have h9 : w.heap.size + 4 ≤ k := OwnR.ownBlock HOA.out k e; omega)).setCell (p := ⟨w.heap.size + 1 + 1, 0, none⟩) (by show w.heap.size ≤ w.heap.size + 1 + 1; omega) _⟩⟩, by simp [intOf]; omega⟩
    · obtain rfl : i = M + 1 := by omega
      have d1 : decide (((M + 1 : Nat) : Int) ≤ 256 + ((M : Int) - 256)) = false := decide_eq_false (by omega)
      have d1' : decide ((M : Int) + 1 ≤ 256 + ((M : Int) - 256)) = false := decide_eq_false (by omega)
      obtain ⟨rowsA, hra, howna⟩ := HG.out.al rfl
      obtain ⟨oA, cA, rfl⟩ := OwnR.slice howna
      rw [hra] at HG
      have HGA := hid (show GrowP false w wr #[.int .i64 p0, .int .i64 p1, .int .i64 p2, .int .i64 p3, .int .i64 p4, .slice sa sn sc] #[.bool n0, .int .i64 n1, .int .i64 n2, .int .i64 n3, .int .i64 n4, .int .i64 n5, .int .i64 n6, .int .i64 n7, .int .i64 n8, .int .i64 n9, .int .i64 n10, .int .i64 n11, .int .i64 n12, .int .i64 n13] (.slice oA (M + 1) cA) (.slice none 0 0) (M + 1) 0 from ⟨HG.out.pb, HG.out.nb, HG.out.ar, HG.out.br, fun h => Bool.noConfusion h, HG.out.bl, HG.out.be⟩)
      clear hg hra howna rowsA HG
      obtain ⟨Q, hQ⟩ : ∃ Q, Q = M + 1 := ⟨_, rfl⟩
      rw [← hQ] at HGA
      have hQ1 : 256 < Q := by omega
      clear hQ
      go_wp2_with fail
      go_loopw [10] (fun iv W => ∃ (i : Nat) (vb : Value), i ≤ 4097 ∧ iv = .int .i64 (i : Int) ∧ GrowP false w W #[.int .i64 p0, .int .i64 p1, .int .i64 p2, .int .i64 p3, .int .i64 p4, .slice sa sn sc] #[.bool n0, .int .i64 n1, .int .i64 n2, .int .i64 n3, .int .i64 n4, .int .i64 n5, .int .i64 n6, .int .i64 n7, .int .i64 n8, .int .i64 n9, .int .i64 n10, .int .i64 n11, .int .i64 n12, .int .i64 n13] (.slice oA Q cA) vb Q i) (fun iv _ => 4097 - (intOf iv).toNat)
      case atStart => exact ⟨0, _, by omega, rfl, HGA.out⟩
      case round =>
        obtain ⟨i, vb, hi, rfl, hg⟩ := hrel
        have HG := hid hg
        clear hg
        by_cases hlt : i ≤ 4096
        · have d2 : decide ((i : Int) ≤ 4096) = true := decide_eq_true (by omega)
          obtain ⟨rows, hrl, hown⟩ := HG.out.bl
          obtain ⟨oa, oc, rfl⟩ := OwnR.slice hown
          have HRL := hid hrl
          rw [hrl] at HG
          rw [hrl] at hown
          clear hrl
          have hlt0 := HG.out.lt
          have c0 : wr.cell? ⟨w.heap.size + 1 + 1 + 1, 1, none⟩ = some (.slice oa i oc) := (cell_row (j := 1) HG.out.br).trans rfl
          have e0 : wr.cell? ⟨w.heap.size + 1, 0, none⟩ = some (.bool n0) := (cell_row (j := 0) HG.out.nb).trans rfl
          have e1 : wr.cell? ⟨w.heap.size + 1, 1, none⟩ = some (.int .i64 n1) := (cell_row (j := 1) HG.out.nb).trans rfl
          have e2 : wr.cell? ⟨w.heap.size + 1, 2, none⟩ = some (.int .i64 n2) := (cell_row (j := 2) HG.out.nb).trans rfl
          have e3 : wr.cell? ⟨w.heap.size + 1, 3, none⟩ = some (.int .i64 n3) := (cell_row (j := 3) HG.out.nb).trans rfl
          have e4 : wr.cell? ⟨w.heap.size + 1, 4, none⟩ = some (.int .i64 n4) := (cell_row (j := 4) HG.out.nb).trans rfl
          have e5 : wr.cell? ⟨w.heap.size + 1, 5, none⟩ = some (.int .i64 n5) := (cell_row (j := 5) HG.out.nb).trans rfl
          have e6 : wr.cell? ⟨w.heap.size + 1, 6, none⟩ = some (.int .i64 n6) := (cell_row (j := 6) HG.out.nb).trans rfl
          have e7 : wr.cell? ⟨w.heap.size + 1, 7, none⟩ = some (.int .i64 n7) := (cell_row (j := 7) HG.out.nb).trans rfl
          have e8 : wr.cell? ⟨w.heap.size + 1, 8, none⟩ = some (.int .i64 n8) := (cell_row (j := 8) HG.out.nb).trans rfl
          have e9 : wr.cell? ⟨w.heap.size + 1, 9, none⟩ = some (.int .i64 n9) := (cell_row (j := 9) HG.out.nb).trans rfl
          have e10 : wr.cell? ⟨w.heap.size + 1, 10, none⟩ = some (.int .i64 n10) := (cell_row (j := 10) HG.out.nb).trans rfl
          have e11 : wr.cell? ⟨w.heap.size + 1, 11, none⟩ = some (.int .i64 n11) := (cell_row (j := 11) HG.out.nb).trans rfl
          have e12 : wr.cell? ⟨w.heap.size + 1, 12, none⟩ = some (.int .i64 n12) := (cell_row (j := 12) HG.out.nb).trans rfl
          have e13 : wr.cell? ⟨w.heap.size + 1, 13, none⟩ = some (.int .i64 n13) := (cell_row (j := 13) HG.out.nb).trans rfl
          have HRK := hid (RowsAt.one (heap_alloc_at wr _ _ rfl) : RowsAt (wr.alloc (.cells #[.bool n0, .int .i64 n1, .int .i64 n2, .int .i64 n3, .int .i64 n4, .int .i64 n5, .int .i64 n6, .int .i64 n7, .int .i64 n8, .int .i64 n9, .int .i64 n10, .int .i64 n11, .int .i64 n12, .int .i64 n13] 45)) wr.heap.size 0 14 [[.bool n0, .int .i64 n1, .int .i64 n2, .int .i64 n3, .int .i64 n4, .int .i64 n5, .int .i64 n6, .int .i64 n7, .int .i64 n8, .int .i64 n9, .int .i64 n10, .int .i64 n11, .int .i64 n12, .int .i64 n13]])
          have HOA := hid (OwnR.grow (W' := wr.alloc (.cells #[.bool n0, .int .i64 n1, .int .i64 n2, .int .i64 n3, .int .i64 n4, .int .i64 n5, .int .i64 n6, .int .i64 n7, .int .i64 n8, .int .i64 n9, .int .i64 n10, .int .i64 n11, .int .i64 n12, .int .i64 n13] 45)) hown ((Below.refl _ _).alloc (Nat.le_refl _) _))
          have HL1 := hid (show rows.length + 1 ≤ maxLen by rw [HRL.out]; unfold maxLen; omega)
          have HL2 := hid (show (rows.length + 1) * 112 ≤ 140737488355328 by rw [HRL.out]; omega)
          have HBS := hid (show w.heap.size + 4 ≤ (wr.alloc (.cells #[.bool n0, .int .i64 n1, .int .i64 n2, .int .i64 n3, .int .i64 n4, .int .i64 n5, .int .i64 n6, .int .i64 n7, .int .i64 n8, .int .i64 n9, .int .i64 n10, .int .i64 n11, .int .i64 n12, .int .i64 n13] 45)).heap.size by simp; omega)
          have HWD := hid (show Wide 14 [[.bool n0, .int .i64 n1, .int .i64 n2, .int .i64 n3, .int .i64 n4, .int .i64 n5, .int .i64 n6, .int .i64 n7, .int .i64 n8, .int .i64 n9, .int .i64 n10, .int .i64 n11, .int .i64 n12, .int .i64 n13]] from Wide.one rfl (fun v hv => by simp at hv; rcases hv with rfl | rfl | rfl | rfl | rfl | rfl | rfl | rfl | rfl | rfl | rfl | rfl | rfl | rfl <;> rfl))
          clear hown
          go_wp2_with (first
            | (at_builtin
               go_loud (refine wpList_append_rows rfl (.tmp 37) (.tmp 39) 47 rfl (w.heap.size + 4) 45 i45 _ 14 112 Try.underlying47 HI'.out HZ0'.out HZ1'.out HZ2'.out rfl (by decide) _ rows [[.bool n0, .int .i64 n1, .int .i64 n2, .int .i64 n3, .int .i64 n4, .int .i64 n5, .int .i64 n6, .int .i64 n7, .int .i64 n8, .int .i64 n9, .int .i64 n10, .int .i64 n11, .int .i64 n12, .int .i64 n13]] rfl HOA.out wr.heap.size 0 1 1 rfl rfl HRK.out HWD.out HL1.out HL2.out HBS.out ?_)
               intro v10 W6 hown6 hg6 z6
               clear z6
               have hsl := OwnR.slice hown6
               rw [len_snoc HRL.out] at hsl
               obtain ⟨oa6, oc6, rfl⟩ := hsl
               have hne : ∀ k, k < w.heap.size + 4 → some k ≠ (Value.slice oa i oc).ownBlock := fun k hk e => by
                 have := OwnR.ownBlock HOA.out k e.symm
                 omega
               have hkeep : ∀ k x, k < w.heap.size + 4 → wr.heap[k]? = some x → W6.heap[k]? = some x := fun k x hk hx => (hg6.block k (by simp; omega) (hne k hk)).trans (heap_alloc_past _ _ _ _ hx)
               have HPB := hid (hkeep _ _ (by omega) HG.out.pb)
               have HNB := hid (hkeep _ _ (by omega) HG.out.nb)
               have HAR := hid (hkeep _ _ (by omega) HG.out.ar)
               have HBR := hid (hkeep _ _ (by omega) HG.out.br)
               have HON := hid hown6
               have HGB := hid hg6
               have HKP := hid hkeep
               have HNE := hid hne
               have c6 : W6.cell? ⟨w.heap.size + 1 + 1 + 1, 1, none⟩ = some (.slice oa i oc) := (cell_row (j := 1) HBR.out).trans rfl
               have f6 : W6.frozen? ⟨w.heap.size + 1 + 1 + 1, 1, none⟩ = false := by have hh := HBR.out; simp [World.frozen?, hh]
               clear hown6 hg6 hkeep hne))
          exact ⟨⟨i + 1, by omega, by first | go_num | omega, .slice oa6 (i + 1) oc6, ⟨heap_other HPB.out (by omega) _, heap_other HNB.out (by omega) _, heap_other HAR.out (by omega) _, heap_setCell HBR.out _, fun h => Bool.noConfusion h, ⟨rows ++ [[.bool n0, .int .i64 n1, .int .i64 n2, .int .i64 n3, .int .i64 n4, .int .i64 n5, .int .i64 n6, .int .i64 n7, .int .i64 n8, .int .i64 n9, .int .i64 n10, .int .i64 n11, .int .i64 n12, .int .i64 n13]], len_snoc HRL.out, OwnR.set HON.out (by omega)⟩, ((HG.out.be.alloc (by omega) _).grown HGB.out (by simp; omega) (fun k e => by have h9 : w.heap.size + 4 ≤ k := OwnR.ownBlock HOA.out k e; omega)).setCell (p := ⟨w.heap.size + 1 + 1 + 1, 1, none⟩) (by show w.heap.size ≤ w.heap.size + 1 + 1 + 1; omega) _⟩⟩, by simp [intOf]; omega⟩
        · obtain rfl : i = 4097 := by omega
          have d2 : decide (((4097 : Nat) : Int) ≤ 4096) = false := by decide
          obtain ⟨rowsB, hrb, hownb⟩ := HG.out.bl
          obtain ⟨oB, cB, rfl⟩ := OwnR.slice hownb
          rw [hrb] at HG
          have hlt0 := HG.out.lt
          have c0 : wr.cell? ⟨w.heap.size + 1 + 1, 0, none⟩ = some (.slice oA Q cA) := (cell_row (j := 0) HG.out.ar).trans rfl
          have c1 : wr.cell? ⟨w.heap.size + 1 + 1, 1, none⟩ = some (.slice none 0 0) := (cell_row (j := 1) HG.out.ar).trans rfl
          have HBRS := hid HG.out.br
          have HBE := hid HG.out.be
          have hzr := HG.out.be.size
          clear hrb hownb rowsB HG
          go_wp2_with fail
          refine (strip_pulses _ Q _ _ _ _ _ hQ1).mono ?_
          rintro r w1 ⟨rfl, hb1⟩
          have HBR1 := hid (heap_still hb1 HBRS.out)
          have e0 : w1.cell? ⟨w.heap.size + 1 + 1 + 1, 0, none⟩ = some (.slice none 0 0) := (cell_row (j := 0) HBR1.out).trans rfl
          have e1 : w1.cell? ⟨w.heap.size + 1 + 1 + 1, 1, none⟩ = some (.slice oB 4097 cB) := (cell_row (j := 1) HBR1.out).trans rfl
          have HB1 := hid (HBE.out.trans (hb1.mono hzr))
          have hz1 := HB1.out.size
          clear hb1 c0 c1
          go_wp2_with fail
          refine (strip_navs _ _ _ 4097 _ _ (by omega)).mono ?_
          rintro r w2 ⟨rfl, hb2⟩
          have HB2 := hid (HB1.out.trans (hb2.mono hz1))
          have hz2 := HB2.out.size
          clear hb2 e0 e1
          go_wp2_with fail
          refine (strip_none _).mono ?_
          rintro r w3 ⟨rfl, hb3⟩
          have HB3 := hid (HB2.out.trans (hb3.mono hz2))
          have hz3 := HB3.out.size
          clear hb3
          go_wp2_with fail
          refine (pawake_any _).mono ?_
          rintro r w4 ⟨rfl, hb4⟩
          go_wp2_with fail
          go_ret
          exact ⟨rfl, HB3.out.trans (hb4.mono hz3)⟩

theorem flat45 : flatOf Try.prog 10 45 = some (none :: List.replicate 13 (some .i64)) := by kernel_rfl
theorem size45 : (Try.prog.info? 45).map (·.size) = some (none :: List.replicate 13 (some IntKind.i64) : List (Option IntKind)).length := by kernel_rfl
theorem flat3m : flatOf Try.prog 10 3 = some [some .i64] := by kernel_rfl
theorem size3m : (Try.prog.info? 3).map (·.size) = some ([some IntKind.i64] : List (Option IntKind)).length := by kernel_rfl
theorem flat35 : flatOf Try.prog 10 35 = some (List.replicate 4 (some .i64)) := by kernel_rfl
theorem cells38 : Try.prog.cellsOf 38 = 6 := by kernel_rfl
theorem cells35 : Try.prog.cellsOf 35 = 4 := by kernel_rfl
theorem cells3m : Try.prog.cellsOf 3 = 1 := by kernel_rfl
theorem cells36 : Try.prog.cellsOf 36 = 1 := by kernel_rfl
theorem bool_cells {ks : List (Option IntKind)} {cs : List Value} (h : fitsW (none :: ks) cs) : ∃ b vs, cs = .bool b :: vs ∧ fitsW ks vs := by
  cases cs with
  | nil => simp [fitsW] at h
  | cons v vs =>
    cases v with
    | bool b => exact ⟨b, vs, rfl, by simpa [fitsW] using h⟩
    | _ => simp [fitsW] at h
theorem int_cells : ∀ {n : Nat} {cs : List Value}, fitsW (List.replicate n (some .i64)) cs → ∃ zs : List Int, zs.length = n ∧ cs = zs.map (Value.int .i64)
  | 0, cs, h => ⟨[], rfl, fits_nil h⟩
  | n + 1, cs, h => by
    obtain ⟨z, vs, rfl, _, h2⟩ := fits_int (show fitsW (some .i64 :: List.replicate n (some .i64)) cs from h)
    obtain ⟨zs, h3, h4⟩ := int_cells h2
    exact ⟨z :: zs, by simp [h3], by simp [h4]⟩
section
variable {H : Type} {enc : TypeId × Value → H} {w : World} {base : Nat} {spare : Nat → Bool} {held : Bool}
theorem open_agg38 {P : Program} {w : World} {r : Reach} {b0 : Nat} {t : TypeId} {n : Nat} {v : Value} (hs : P.cellsOf t = n) (hagg : (match P.underlying t with | some (.struct _) => true | some (.array _ _) => true | _ => false) = true) (hv : Value.okWide P w r b0 t v) :
    ∃ cs : List Value, v = .agg cs.toArray ∧ cs.length = n := by
  obtain ⟨cs, rfl, hsz⟩ : ∃ cs, v = .agg cs ∧ cs.size = P.cellsOf t := by
    unfold Value.okWide at hv
    split at hv
    · obtain ⟨cs, rfl, h, _⟩ := hv; exact ⟨cs, rfl, h⟩
    · obtain ⟨cs, rfl, h, _⟩ := hv; exact ⟨cs, rfl, h⟩
    · rename_i h1 h2
      split at hagg
      · rename_i fs he; exact absurd he (h1 fs)
      · rename_i n e he; exact absurd he (h2 n e)
      · simp at hagg
  exact ⟨cs.toList, by simp, by simpa [hs] using hsz⟩
set_option maxRecDepth 100000 in
theorem open_pulse {r : Reach} {b0 : Nat} {v : Value} {d : DataW H} {p : List MemPlace} (hv : Value.okWide Try.prog w r b0 38 v) (h : DataW.Trod enc Try.prog w base spare held 38 v d p) :
    ∃ (p0 p1 p2 p3 p4 : Int) (sa : Option Addr) (sn sc : Nat), v = .agg #[.int .i64 p0, .int .i64 p1, .int .i64 p2, .int .i64 p3, .int .i64 p4, .slice sa sn sc] := by
  obtain ⟨cs, rfl, hsz⟩ := open_agg38 cells38 (by kernel_rfl) hv
  clear hv
  obtain ⟨fuel, hx⟩ := h
  match cs, hsz with
  | [c0, c1, c2, c3, c4, c5], _ =>
    obtain ⟨xs, m, _, _, _, hxl, hf⟩ := DataW.trod_struct Try.underlying38 (show DataW.trod enc Try.prog w base spare held fuel 38 _ = _ from by simpa [Value.cells] using hx)
    have h0 := hf 0 _ rfl
    rw [List.getElem?_eq_getElem (by rw [hxl]; decide)] at h0
    have h1 := hf 1 _ rfl
    rw [List.getElem?_eq_getElem (by rw [hxl]; decide)] at h1
    have h2 := hf 2 _ rfl
    rw [List.getElem?_eq_getElem (by rw [hxl]; decide)] at h2
    have k0 := trod_flat 10 3 _ _ _ _ flat3m (by simp [cells3m]) h0
    obtain ⟨p0, v0, e0, _, _⟩ := fits_int (show fitsW [some .i64] _ from k0)
    simp [cells3m] at e0
    obtain ⟨rfl, _⟩ := e0
    have k1 := trod_flat 10 35 _ _ _ _ flat35 (by simp [cells35]) h1
    obtain ⟨zs, hzl, e1⟩ := int_cells (n := 4) k1
    simp [cells35] at e1
    match zs, hzl with
    | [z1, z2, z3, z4], _ =>
      simp at e1
      obtain ⟨rfl, rfl, rfl, rfl⟩ := e1
      obtain ⟨a, len, cap, e2, _⟩ := open_cell_rows (v := c5) Try.underlying36 flat3m size3m (by decide) (show DataW.trod enc Try.prog w base spare held m 36 [c5] = _ from by simpa [cells36] using h2)
      subst e2
      exact ⟨p0, z1, z2, z3, z4, a, len, cap, rfl⟩
end
set_option maxRecDepth 100000 in
theorem plantMany_lifted (os : Os) (started : os.Started) (H : Type) (enc : TypeId × Value → H) :
    ReturnsInHanded {} Try.checked os 5 .any (Rows.plantManySpec.pre6 enc Try.prog Try.f5 Rows.plantManyRow.domain false) (Rows.plantManySpec.post enc Try.prog Try.f5 false true false false) := by
  refine law_lifted (C := Try.checked) (tb := 4) lawOwn started (by kernel_rfl) Try.func5 rfl ?_ (show Try.f5.resultTypes = #[4] by kernel_rfl) Try.underlying4 lawLaid ?_
    (ChangeSpec.witness6 (enc := enc) (C := Try.checked) false ⟨#[], #[.agg #[.int .i64 0, .int .i64 0, .int .i64 0, .int .i64 0, .int .i64 0, .slice none 0 0], .agg #[.bool false, .int .i64 0, .int .i64 0, .int .i64 0, .int .i64 0, .int .i64 0, .int .i64 0, .int .i64 0, .int .i64 0, .int .i64 0, .int .i64 0, .int .i64 0, .int .i64 0, .int .i64 0], .int .u8 0], []⟩ 8 (by kernel_rfl) (by kernel_rfl) (by kernel_rfl) (by kernel_rfl)) ?_
  · intro ds hds
    match ds, hds with
    | [d1, d2, d3], _ => exact ⟨rfl, rfl, rfl⟩
  · rw [Try.params5]
    intro t ht
    simp at ht
    rcases ht with rfl | rfl | rfl
    all_goals exact ⟨by kernel_rfl, of_decide_eq_true (by kernel_rfl)⟩
  · intro W base args ds p hval hA hlt _
    change DataW.TrodAll enc Try.prog W 0 (fun _ => true) true Try.f5.params.toList args.toList ds p at hA
    change ∀ (j : Nat) t v, Try.f5.params[j]? = some t → args[j]? = some v → Value.okWide Try.prog W .any base t v at hval
    rw [Try.params5] at hA hval
    obtain ⟨v0, vs0, d0, ds0, p0, q0, hargs, rfl, rfl, h0, r0⟩ := trodAll_cons hA
    obtain ⟨v1, vs1, d1, ds1, p1, q1, rfl, rfl, rfl, h1, r1⟩ := trodAll_cons r0
    obtain ⟨v2, vs2, d2, ds2, p2, q2, rfl, rfl, rfl, h2, r2⟩ := trodAll_cons r1
    obtain ⟨rfl, rfl, rfl⟩ := trodAll_nil r2
    obtain rfl : args = #[v0, v1, v2] := by cases args; simp_all
    obtain ⟨a0, a1, a2, a3, a4, sa, sn, sc, rfl⟩ := open_pulse (hval 0 38 v0 rfl rfl) h0
    obtain ⟨cs, rfl, hf⟩ := open_flat flat45 size45 (by kernel_rfl) (hval 1 45 v1 rfl rfl) h1
    obtain ⟨b0, vs, rfl, hf2⟩ := bool_cells hf
    obtain ⟨zs, hzl, rfl⟩ := int_cells hf2
    obtain ⟨n, rfl, _, _, hw⟩ := open_int Try.underlying5 (hval 2 5 v2 rfl rfl) h2
    have hn := wf_u8 hw
    obtain ⟨q, rfl⟩ : ∃ q : Nat, n = (q : Int) := ⟨n.toNat, by omega⟩
    match zs, hzl with
    | [z1, z2, z3, z4, z5, z6, z7, z8, z9, z10, z11, z12, z13], _ => exact many_law a0 a1 a2 a3 a4 sa sn sc b0 z1 z2 z3 z4 z5 z6 z7 z8 z9 z10 z11 z12 z13 q W (by omega)
/-- PlantMany, whatever the input. -/
theorem plantMany_holds : Rows.PlantManySaid :=
  OpenClaim.holds_of_wide 5 Try.f5 rfl rfl rfl rfl rfl rfl rfl ⟨rfl, rfl, rfl, rfl, rfl⟩ rfl rfl rfl rfl rfl (by kernel_rfl) Try.func5 (by kernel_rfl)
    (of_decide_eq_true (by kernel_rfl)) (by unfold Func.isWrapper; rw [if_neg (of_decide_eq_false (by kernel_rfl))]; exact ⟨rfl, rfl⟩)
    (fun os started H enc _ => plantMany_lifted os started H enc)
#print axioms plantMany_holds
end Go.Proofs.Ytpablkmdpoombaa
