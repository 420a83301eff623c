/- Texts of the seat Yteoikaedpgianaa, turned to this one by wip/port.py: EncR. -/
import Derived.Test.YtpablkmdpoombaaFund
import Derived.Test.YtpablkmdpoombaaVal
import Derived.Test.YtpablkmdpoombaaPts
import Derived.Test.YtpablkmdpoombaaSrt
import Derived.Test.YtpablkmdpoombaaNum
import Derived.Test.YtpablkmdpoombaaCrc
import Derived.Test.YtpablkmdpoombaaEnc
import Derived.Test.YtpablkmdpoombaaRp
import Derived.Test.YtpablkmdpoombaaAidB
import Derived.Test.YtpablkmdpoombaaAidC
import Derived.Test.YtpablkmdpoombaaAidD
import Derived.Test.YtpablkmdpoombaaAidE
import Derived.Test.YtpablkmdpoombaaNvA
/- EncR -/
namespace Go.Proofs.Ytpablkmdpoombaa
open Go.RowKit

theorem own_below {W W' : World} {B n : Nat} {v : Value} {xs : List Value} (hB : Below W.heap.size W W') (h : W.ownsRow B 5 1 v n xs) : W'.ownsRow B 5 1 v n xs := by
  obtain ⟨h1, h2⟩ := h
  refine ⟨h1, ?_⟩
  rcases h2 with h2 | ⟨g, cap, cur, hv, hg, hr, h3⟩
  · exact Or.inl h2
  · exact Or.inr ⟨g, cap, cur, hv, hg, (hB.block g (Array.getElem?_eq_some_iff.1 hr).1).trans hr, h3⟩
/-- bytes in a row of their own -/
def Bys (bs : List Nat) (W : World) (v : Value) : Prop := W.ownsRow 0 5 1 v bs.length (u8s bs)
theorem Bys.stb (bs : List Nat) : Stb (Bys bs) := fun _ _ _ hB h => own_below hB h
/-- integers in a slice made of them -/
def Ints (n : Nat) (zs : List Int) (W : World) (v : Value) : Prop := ∃ g, v = .slice (some ⟨g, 0, none⟩) n n ∧ W.heap[g]? = some (.cells (zs.map (Value.int .i64)).toArray 3)
theorem Ints.stb (n : Nat) (zs : List Int) : Stb (Ints n zs) := fun _ _ _ hB ⟨g, h1, h2⟩ => ⟨g, h1, heap_still hB h2⟩

set_option maxRecDepth 100000 in
set_option maxHeartbeats 3200000 in
theorem rEncodeFix_yes (t x y z e a b c d g s0 s1 s2 : Int) (w : World) (h1 : fixB t x y z e a b c d g = true) (h2 : ([s0, s1, s2] == [0, 0, 0]) = true) :
    Calls Try.prog 59 #[.agg #[.bool false, .int .i64 t, .int .i64 x, .int .i64 y, .int .i64 z, .int .i64 e, .int .i64 a, .int .i64 b, .int .i64 c, .int .i64 d, .int .i64 g, .int .i64 s0, .int .i64 s1, .int .i64 s2]] w fun r w' => Enc 0 (fixBytes t x y z e a b c d g) r w' ∧ Below w.heap.size w w' := by
  have hq := eq57 s0 s1 s2 0 0 0
  rw [h2] at hq
  have H1 := hid h1
  have HBD := hid (fix_bd h1)
  have HBw := hid (Below.refl w.heap.size w)
  clear h1 h2
  go_enter Try.func59, Try.ntmps59
  go_wp2_with (first | (refine wpList_store_new rfl 41 (.tmp 4) (.tmp 29) rfl rfl rfl rfl size55 rfl rfl rfl ?_))
  refine (rFix_any _ _ _ _ _ _ _ _ _ _ _).mono ?_
  rintro r w1 ⟨rfl, hb⟩
  have HBw1 := hid (show Below w.heap.size w w1 by have hB0 := HBw.out; refine Below.trans ?_ (hb.mono ?_); (focus ((repeat' (first | (with_reducible exact Below.refl _ _) | (with_reducible assumption) | (with_reducible refine Below.alloc ?_ ?_ _) | (with_reducible refine Below.drew ?_) | (with_reducible refine below_drewN ?_ _) | (with_reducible refine Below.setCell ?_ ?_ _) | (with_reducible refine below_setRow ?_ ?_ _) | go_size)); done)); (focus (first | (simp; done) | (simp; omega) | (have hB1 := hB0.size; simp; omega))))
  have hsw1 := hb.size
  (try simp at hsw1)
  have hzw1 : w.heap.size < w1.heap.size := by omega
  obtain ⟨hcw1, hfw1⟩ := bcell hb
  have hkw1 := hid (fun n x => @heap_still _ _ n x hb)
  clear hb
  rw [H1.out]
  have F0 := hid (hkw1.out _ _ (by repeat' (first | (refine heap_alloc_at _ _ _ ?_; (first | rfl | (simp; done) | (simp; omega))) | (refine heap_alloc_past _ _ _ _ ?_))) : w1.heap[w.heap.size + 1]? = some (.cells #[.int .i64 t, .int .i64 x, .int .i64 y, .int .i64 z, .int .i64 e, .int .i64 a, .int .i64 b, .int .i64 c, .int .i64 d, .int .i64 g] 41))
  go_wp2_with fail
  obtain ⟨B1, hE1⟩ : ∃ l, l = [0] ++ encs encU [t] := ⟨_, rfl⟩
  obtain ⟨B2, hE2⟩ : ∃ l, l = B1 ++ encs encS [x, y, z] := ⟨_, rfl⟩
  obtain ⟨B3, hE3⟩ : ∃ l, l = B2 ++ encs encU [e] := ⟨_, rfl⟩
  obtain ⟨B4, hE4⟩ : ∃ l, l = B3 ++ encs encS [a, b, c, d] := ⟨_, rfl⟩
  have hlen : (B1.length ≤ 2000 ∧ B2.length ≤ 2000 ∧ B3.length ≤ 2000 ∧ B4.length ≤ 2000) ∧ (0 < B1.length ∧ 0 < B2.length ∧ 0 < B3.length ∧ 0 < B4.length) := by
    have j1 := encU_le HBD.out.1 (by simp)
    have j2 := encS_le HBD.out.2.1 (by simp)
    have j3 := encU_le HBD.out.2.2.1 (by simp)
    have j4 := encS_le HBD.out.2.2.2.1 (by simp)
    subst hE4 hE3 hE2 hE1
    simp only [List.length_append, List.length_cons, List.length_nil]
    omega
  have HL := hid hlen.1
  have HL0 := hid hlen.2
  have HE1 := hid hE1
  have HE2 := hid hE2
  have HE3 := hid hE3
  have HE4 := hid hE4
  clear hlen hE1 hE2 hE3 hE4
  refine gen_act (fun A0 hA => ?_)
  refine wp_region_pl (by kernel_rfl) (by kernel_rfl) [some 37, some 38, some 39, some 40, some 41, some 42, some 43, some 44, some 45, some 46, some 47, some 48, some 49, some 50, some 51, some 52, some 5] rfl (by decide)
    [Bys [0], IsV (.pointer (some ⟨w.heap.size + 1, 0, none⟩)), IsV (.int .i64 t), Ints 1 [t], Bys B1,
      IsV (.pointer (some ⟨w.heap.size + 1, 1, none⟩)), IsV (.pointer (some ⟨w.heap.size + 1, 1, none⟩)), IsV (.int .i64 x),
      IsV (.pointer (some ⟨w.heap.size + 1, 1, none⟩)), IsV (.pointer (some ⟨w.heap.size + 1, 2, none⟩)), IsV (.int .i64 y),
      IsV (.pointer (some ⟨w.heap.size + 1, 1, none⟩)), IsV (.pointer (some ⟨w.heap.size + 1, 3, none⟩)), IsV (.int .i64 z), Ints 3 [x, y, z],
      Bys B2, Bys B2]
    ⟨Bys.stb _, IsV.stb _, IsV.stb _, Ints.stb _ _, Bys.stb _, IsV.stb _, IsV.stb _, IsV.stb _, IsV.stb _, IsV.stb _, IsV.stb _, IsV.stb _, IsV.stb _, IsV.stb _, Ints.stb _ _, Bys.stb _, Bys.stb _, trivial⟩ ?hs1 ?hend1
  case hs1 =>
    refine ⟨?_, ?_, ?_, ?_, ?_, ?_, ?_, ?_, ?_, ?_, ?_, ?_, ?_, ?_, ?_, ?_, ?_, trivial⟩
    · intro K us W hK0 hB hd
      have hK := hid hK0; clear hK0
      have HBW := hid hB
      have hsW := hB.size
      have G0 := hid (heap_still hB F0.out)
      (try simp [Region.binds] at hd)
      simp only [putF]
      rw [hA]
      go_frame
      go_wp2_with fail
      exact hK.out _ _ _ (by rw [hA]; kernel_rfl) ((Below.refl _ _).alloc (Nat.le_refl _) _) (own_lit rfl (heap_alloc_at _ _ _ rfl))
    · intro K us W hK0 hB hd
      have hK := hid hK0; clear hK0
      have HBW := hid hB
      have hsW := hB.size
      have G0 := hid (heap_still hB F0.out)
      (try simp [Region.binds] at hd)
      simp only [putF]
      rw [hA]
      go_frame
      go_wp2_with fail
      exact hK.out _ _ _ (by rw [hA]; kernel_rfl) (Below.refl _ _) rfl
    · intro K us W hK0 hB hd
      have hK := hid hK0; clear hK0
      have HBW := hid hB
      have hsW := hB.size
      have G0 := hid (heap_still hB F0.out)
      (try simp [Region.binds] at hd)
      have e0 : us 1 = _ := hd
      have c0 : W.cell? ⟨w.heap.size + 1, 0, none⟩ = some (.int .i64 _) := (cell_row (j := 0) G0.out).trans rfl
      simp only [putF]
      rw [hA, e0]
      go_frame
      go_wp2_with fail
      exact hK.out _ _ _ (by rw [hA]; simp only [putF]; rw [e0]; kernel_rfl) (Below.refl _ _) rfl
    · intro K us W hK0 hB hd
      have hK := hid hK0; clear hK0
      have HBW := hid hB
      have hsW := hB.size
      have G0 := hid (heap_still hB F0.out)
      (try simp [Region.binds] at hd)
      have e0 : us 2 = _ := hd
      simp only [putF]
      rw [hA, e0]
      go_frame
      go_wp2_with fail
      exact hK.out _ _ _ (by rw [hA]; simp only [putF]; rw [e0]; kernel_rfl) ((Below.refl _ _).alloc (Nat.le_refl _) _) ⟨_, rfl, heap_alloc_at _ _ _ rfl⟩
    · intro K us W hK0 hB hd
      have hK := hid hK0; clear hK0
      have HBW := hid hB
      have hsW := hB.size
      have G0 := hid (heap_still hB F0.out)
      (try simp [Region.binds] at hd)
      have hb1 : Bys ([0]) W (us 0) := hd.1
      have hb2 : Ints 1 [t] W (us 3) := hd.2
      obtain ⟨g1, cap1, e1, _⟩ := own_shape hb1 (by first | (simp; done) | exact HL0.out.1)
      obtain ⟨g2, e2, hg2⟩ := hb2
      have e1' := e1
      have e2' := e2
      have HO := hid (show W.ownsRow 0 5 1 (.slice (some ⟨g1, 0, none⟩) ([0]).length cap1) ([0]).length (u8s ([0])) by rw [← e1]; exact hb1)
      have HG := hid hg2
      clear hb1
      simp only [putF]
      rw [hA, e1, e2]
      generalize hbn : ([0]).length = bn at *
      have HBN := hid hbn
      have HL1 := hid (show bn ≤ 2000 by first | exact HL.out.1 | (rw [← hbn]; simp; done))
      have HL2 := hid (show 0 < bn by first | exact HL0.out.1 | (rw [← hbn]; simp; done))
      clear hbn hg2
      go_frame
      go_wp2_with fail
      refine (rNumbers_any g1 bn cap1 g2 0 1 1 [t] ([0]) W HO.out HL1.out HL2.out (HBD.out.1) rfl (by omega) (fun i hi => cells_ints [t] HG.out rfl i hi) (Array.getElem?_eq_some_iff.1 HG.out).1).mono ?_
      rintro r W' ⟨⟨v, rfl, hv⟩, hbb⟩
      go_wp2_with fail
      exact hK.out _ _ _ (by rw [hA]; simp only [putF]; rw [e1', e2']; kernel_rfl) hbb (by unfold Bys; rw [HE1.out]; exact hv)
    · intro K us W hK0 hB hd
      have hK := hid hK0; clear hK0
      have HBW := hid hB
      have hsW := hB.size
      have G0 := hid (heap_still hB F0.out)
      (try simp [Region.binds] at hd)
      simp only [putF]
      rw [hA]
      go_frame
      go_wp2_with fail
      exact hK.out _ _ _ (by rw [hA]; kernel_rfl) (Below.refl _ _) rfl
    · intro K us W hK0 hB hd
      have hK := hid hK0; clear hK0
      have HBW := hid hB
      have hsW := hB.size
      have G0 := hid (heap_still hB F0.out)
      (try simp [Region.binds] at hd)
      have e0 : us 5 = _ := hd
      simp only [putF]
      rw [hA, e0]
      go_frame
      go_wp2_with fail
      exact hK.out _ _ _ (by rw [hA]; simp only [putF]; rw [e0]; kernel_rfl) (Below.refl _ _) rfl
    · intro K us W hK0 hB hd
      have hK := hid hK0; clear hK0
      have HBW := hid hB
      have hsW := hB.size
      have G0 := hid (heap_still hB F0.out)
      (try simp [Region.binds] at hd)
      have e0 : us 6 = _ := hd
      have c0 : W.cell? ⟨w.heap.size + 1, 1, none⟩ = some (.int .i64 _) := (cell_row (j := 1) G0.out).trans rfl
      simp only [putF]
      rw [hA, e0]
      go_frame
      go_wp2_with fail
      exact hK.out _ _ _ (by rw [hA]; simp only [putF]; rw [e0]; kernel_rfl) (Below.refl _ _) rfl
    · intro K us W hK0 hB hd
      have hK := hid hK0; clear hK0
      have HBW := hid hB
      have hsW := hB.size
      have G0 := hid (heap_still hB F0.out)
      (try simp [Region.binds] at hd)
      simp only [putF]
      rw [hA]
      go_frame
      go_wp2_with fail
      exact hK.out _ _ _ (by rw [hA]; kernel_rfl) (Below.refl _ _) rfl
    · intro K us W hK0 hB hd
      have hK := hid hK0; clear hK0
      have HBW := hid hB
      have hsW := hB.size
      have G0 := hid (heap_still hB F0.out)
      (try simp [Region.binds] at hd)
      have e0 : us 8 = _ := hd
      simp only [putF]
      rw [hA, e0]
      go_frame
      go_wp2_with fail
      exact hK.out _ _ _ (by rw [hA]; simp only [putF]; rw [e0]; kernel_rfl) (Below.refl _ _) rfl
    · intro K us W hK0 hB hd
      have hK := hid hK0; clear hK0
      have HBW := hid hB
      have hsW := hB.size
      have G0 := hid (heap_still hB F0.out)
      (try simp [Region.binds] at hd)
      have e0 : us 9 = _ := hd
      have c0 : W.cell? ⟨w.heap.size + 1, 2, none⟩ = some (.int .i64 _) := (cell_row (j := 2) G0.out).trans rfl
      simp only [putF]
      rw [hA, e0]
      go_frame
      go_wp2_with fail
      exact hK.out _ _ _ (by rw [hA]; simp only [putF]; rw [e0]; kernel_rfl) (Below.refl _ _) rfl
    · intro K us W hK0 hB hd
      have hK := hid hK0; clear hK0
      have HBW := hid hB
      have hsW := hB.size
      have G0 := hid (heap_still hB F0.out)
      (try simp [Region.binds] at hd)
      simp only [putF]
      rw [hA]
      go_frame
      go_wp2_with fail
      exact hK.out _ _ _ (by rw [hA]; kernel_rfl) (Below.refl _ _) rfl
    · intro K us W hK0 hB hd
      have hK := hid hK0; clear hK0
      have HBW := hid hB
      have hsW := hB.size
      have G0 := hid (heap_still hB F0.out)
      (try simp [Region.binds] at hd)
      have e0 : us 11 = _ := hd
      simp only [putF]
      rw [hA, e0]
      go_frame
      go_wp2_with fail
      exact hK.out _ _ _ (by rw [hA]; simp only [putF]; rw [e0]; kernel_rfl) (Below.refl _ _) rfl
    · intro K us W hK0 hB hd
      have hK := hid hK0; clear hK0
      have HBW := hid hB
      have hsW := hB.size
      have G0 := hid (heap_still hB F0.out)
      (try simp [Region.binds] at hd)
      have e0 : us 12 = _ := hd
      have c0 : W.cell? ⟨w.heap.size + 1, 3, none⟩ = some (.int .i64 _) := (cell_row (j := 3) G0.out).trans rfl
      simp only [putF]
      rw [hA, e0]
      go_frame
      go_wp2_with fail
      exact hK.out _ _ _ (by rw [hA]; simp only [putF]; rw [e0]; kernel_rfl) (Below.refl _ _) rfl
    · intro K us W hK0 hB hd
      have hK := hid hK0; clear hK0
      have HBW := hid hB
      have hsW := hB.size
      have G0 := hid (heap_still hB F0.out)
      (try simp [Region.binds] at hd)
      obtain ⟨e0, e1, e2⟩ : us 7 = _ ∧ us 10 = _ ∧ us 13 = _ := hd
      simp only [putF]
      rw [hA, e0, e1, e2]
      go_frame
      go_wp2_with fail
      exact hK.out _ _ _ (by rw [hA]; simp only [putF]; rw [e0, e1, e2]; kernel_rfl) ((Below.refl _ _).alloc (Nat.le_refl _) _) ⟨_, rfl, heap_alloc_at _ _ _ rfl⟩
    · intro K us W hK0 hB hd
      have hK := hid hK0; clear hK0
      have HBW := hid hB
      have hsW := hB.size
      have G0 := hid (heap_still hB F0.out)
      (try simp [Region.binds] at hd)
      have hb1 : Bys (B1) W (us 4) := hd.1
      have hb2 : Ints 3 [x, y, z] W (us 14) := hd.2.1
      obtain ⟨g1, cap1, e1, _⟩ := own_shape hb1 (by first | (simp; done) | exact HL0.out.1)
      obtain ⟨g2, e2, hg2⟩ := hb2
      have e1' := e1
      have e2' := e2
      have HO := hid (show W.ownsRow 0 5 1 (.slice (some ⟨g1, 0, none⟩) (B1).length cap1) (B1).length (u8s (B1)) by rw [← e1]; exact hb1)
      have HG := hid hg2
      clear hb1
      simp only [putF]
      rw [hA, e1, e2]
      generalize hbn : (B1).length = bn at *
      have HBN := hid hbn
      have HL1 := hid (show bn ≤ 2000 by first | exact HL.out.1 | (rw [← hbn]; simp; done))
      have HL2 := hid (show 0 < bn by first | exact HL0.out.1 | (rw [← hbn]; simp; done))
      clear hbn hg2
      go_frame
      go_wp2_with fail
      refine (rSigneds_any g1 bn cap1 g2 0 3 3 [x, y, z] (B1) W HO.out HL1.out HL2.out (HBD.out.2.1) rfl (by omega) (fun i hi => cells_ints [x, y, z] HG.out rfl i hi) (Array.getElem?_eq_some_iff.1 HG.out).1).mono ?_
      rintro r W' ⟨⟨v, rfl, hv⟩, hbb⟩
      go_wp2_with fail
      exact hK.out _ _ _ (by rw [hA]; simp only [putF]; rw [e1', e2']; kernel_rfl) hbb (by unfold Bys; rw [HE2.out]; exact hv)
    · intro K us W hK0 hB hd
      have hK := hid hK0; clear hK0
      have HBW := hid hB
      have hsW := hB.size
      have G0 := hid (heap_still hB F0.out)
      (try simp [Region.binds] at hd)
      simp only [putF]
      rw [hA]
      go_frame
      go_wp2_with fail
      exact hK.out _ _ _ (by rw [hA]; kernel_rfl) (Below.refl _ _) hd.1
  case hend1 =>
    intro us0 W hB hp
    have hb := hp 16 (by decide)
    obtain ⟨v16, hv16⟩ : ∃ v, us0 16 = v := ⟨_, rfl⟩
    have HB16 := hid (show Bys B2 W v16 by rw [← hv16]; exact hb)
    have HBW := hid hB
    have G0 := hid (heap_still hB F0.out)
    have F0 := G0
    simp only [putF, Nat.zero_add, Nat.reduceAdd]
    rw [hv16, hA]
    clear hp hb hA G0 hv16
    have HB1 := hid (HBw1.out.trans (HBW.out.mono HBw1.out.size))
    go_frame
    go_wp2_with fail
    refine gen_act (fun A1 hA => ?_)
    refine wp_region_twoX (by kernel_rfl) (by kernel_rfl) [some 53, some 54, some 55, some 56, some 57, some 58, some 59, some 60, some 61, some 62, some 63, some 64, some 65, some 66, some 67, some 68, some 69, some 70, some 71, some 5] rfl (by decide) 19 (by decide) (by kernel_rfl) (by kernel_rfl)
      [Bys B2, IsV (.pointer (some ⟨w.heap.size + 1, 4, none⟩)), IsV (.int .i64 e), Ints 1 [e], Bys B3,
        IsV (.pointer (some ⟨w.heap.size + 1, 5, none⟩)), IsV (.pointer (some ⟨w.heap.size + 1, 5, none⟩)), IsV (.int .i64 a),
        IsV (.pointer (some ⟨w.heap.size + 1, 5, none⟩)), IsV (.pointer (some ⟨w.heap.size + 1, 6, none⟩)), IsV (.int .i64 b),
        IsV (.pointer (some ⟨w.heap.size + 1, 5, none⟩)), IsV (.pointer (some ⟨w.heap.size + 1, 7, none⟩)), IsV (.int .i64 c),
        IsV (.pointer (some ⟨w.heap.size + 1, 5, none⟩)), IsV (.pointer (some ⟨w.heap.size + 1, 8, none⟩)), IsV (.int .i64 d), Ints 4 [a, b, c, d],
        Bys B4]
      ⟨Bys.stb _, IsV.stb _, IsV.stb _, Ints.stb _ _, Bys.stb _, IsV.stb _, IsV.stb _, IsV.stb _, IsV.stb _, IsV.stb _, IsV.stb _, IsV.stb _, IsV.stb _, IsV.stb _, IsV.stb _, IsV.stb _, IsV.stb _, Ints.stb _ _, Bys.stb _, trivial⟩ (by simp) (fun _ us _ => us 19 = v16) (fun _ _ _ _ _ h => h) (by rw [hA]; rfl)
      (fun L us W3 => (L 19 = false → Below W.heap.size W W3 ∧ Bys B4 W3 (us 18)) ∧ (L 19 = true → Below W.heap.size W W3 ∧ Bys B4 W3 (us 19))) ?h12 ?hs2 ?hs3 ?hend2 (by decide)
    case h12 =>
      intro L us W h1 h2 hB hp _
      exact ⟨fun _ => ⟨hB, hp 18 (by decide)⟩, fun h => by rw [h2 19 (by decide) (by decide)] at h; cases h⟩
    case hs2 =>
      refine ⟨?_, ?_, ?_, ?_, ?_, ?_, ?_, ?_, ?_, ?_, ?_, ?_, ?_, ?_, ?_, ?_, ?_, ?_, ?_, trivial⟩
      · intro K L us W hK1 hLk hX hB _ hd
        have hK0 := fun v A' W' h1 h2 h3 => hK1 v A' W' h1 h2 h3 (by simpa [updF] using hX)
        have HX := hid hX
        have hK := hid hK0; clear hK0 hK1 hX
        have HBW := hid hB
        have hsW := hB.size
        have G0 := hid (heap_still hB F0.out)
        (try simp [Region.binds] at hd)
        simp only [putF, Nat.zero_add, Nat.reduceAdd]
        rw [hA, HX.out]
        go_frame
        go_wp2_with fail
        exact hK.out _ _ _ (by rw [hA]; simp only [putF, Nat.zero_add, Nat.reduceAdd]; rw [HX.out]; kernel_rfl) (Below.refl _ _) (own_below HBW.out HB16.out)
      · intro K L us W hK1 hLk hX hB _ hd
        have hK0 := fun v A' W' h1 h2 h3 => hK1 v A' W' h1 h2 h3 (by simpa [updF] using hX)
        have HX := hid hX
        have hK := hid hK0; clear hK0 hK1 hX
        have HBW := hid hB
        have hsW := hB.size
        have G0 := hid (heap_still hB F0.out)
        (try simp [Region.binds] at hd)
        simp only [putF]
        rw [hA]
        go_frame
        go_wp2_with fail
        exact hK.out _ _ _ (by rw [hA]; kernel_rfl) (Below.refl _ _) rfl
      · intro K L us W hK1 hLk hX hB _ hd
        have hK0 := fun v A' W' h1 h2 h3 => hK1 v A' W' h1 h2 h3 (by simpa [updF] using hX)
        have HX := hid hX
        have hK := hid hK0; clear hK0 hK1 hX
        have HBW := hid hB
        have hsW := hB.size
        have G0 := hid (heap_still hB F0.out)
        (try simp [Region.binds] at hd)
        have e0 : us 1 = _ := hd
        have c0 : W.cell? ⟨w.heap.size + 1, 4, none⟩ = some (.int .i64 _) := (cell_row (j := 4) G0.out).trans rfl
        simp only [putF]
        rw [hA, e0]
        go_frame
        go_wp2_with fail
        exact hK.out _ _ _ (by rw [hA]; simp only [putF]; rw [e0]; kernel_rfl) (Below.refl _ _) rfl
      · intro K L us W hK1 hLk hX hB _ hd
        have hK0 := fun v A' W' h1 h2 h3 => hK1 v A' W' h1 h2 h3 (by simpa [updF] using hX)
        have HX := hid hX
        have hK := hid hK0; clear hK0 hK1 hX
        have HBW := hid hB
        have hsW := hB.size
        have G0 := hid (heap_still hB F0.out)
        (try simp [Region.binds] at hd)
        have e0 : us 2 = _ := hd
        simp only [putF]
        rw [hA, e0]
        go_frame
        go_wp2_with fail
        exact hK.out _ _ _ (by rw [hA]; simp only [putF]; rw [e0]; kernel_rfl) ((Below.refl _ _).alloc (Nat.le_refl _) _) ⟨_, rfl, heap_alloc_at _ _ _ rfl⟩
      · intro K L us W hK1 hLk hX hB _ hd
        have hK0 := fun v A' W' h1 h2 h3 => hK1 v A' W' h1 h2 h3 (by simpa [updF] using hX)
        have HX := hid hX
        have hK := hid hK0; clear hK0 hK1 hX
        have HBW := hid hB
        have hsW := hB.size
        have G0 := hid (heap_still hB F0.out)
        (try simp [Region.binds] at hd)
        have hb1 : Bys (B2) W (us 0) := hd.1
        have hb2 : Ints 1 [e] W (us 3) := hd.2
        obtain ⟨g1, cap1, e1, _⟩ := own_shape hb1 (by first | (simp; done) | exact HL0.out.2.1)
        obtain ⟨g2, e2, hg2⟩ := hb2
        have e1' := e1
        have e2' := e2
        have HO := hid (show W.ownsRow 0 5 1 (.slice (some ⟨g1, 0, none⟩) (B2).length cap1) (B2).length (u8s (B2)) by rw [← e1]; exact hb1)
        have HG := hid hg2
        clear hb1
        simp only [putF]
        rw [hA, e1, e2]
        generalize hbn : (B2).length = bn at *
        have HBN := hid hbn
        have HL1 := hid (show bn ≤ 2000 by first | exact HL.out.2.1 | (rw [← hbn]; simp; done))
        have HL2 := hid (show 0 < bn by first | exact HL0.out.2.1 | (rw [← hbn]; simp; done))
        clear hbn hg2
        go_frame
        go_wp2_with fail
        refine (rNumbers_any g1 bn cap1 g2 0 1 1 [e] (B2) W HO.out HL1.out HL2.out (HBD.out.2.2.1) rfl (by omega) (fun i hi => cells_ints [e] HG.out rfl i hi) (Array.getElem?_eq_some_iff.1 HG.out).1).mono ?_
        rintro r W' ⟨⟨v, rfl, hv⟩, hbb⟩
        go_wp2_with fail
        exact hK.out _ _ _ (by rw [hA]; simp only [putF]; rw [e1', e2']; kernel_rfl) hbb (by unfold Bys; rw [HE3.out]; exact hv)
      · intro K L us W hK1 hLk hX hB _ hd
        have hK0 := fun v A' W' h1 h2 h3 => hK1 v A' W' h1 h2 h3 (by simpa [updF] using hX)
        have HX := hid hX
        have hK := hid hK0; clear hK0 hK1 hX
        have HBW := hid hB
        have hsW := hB.size
        have G0 := hid (heap_still hB F0.out)
        (try simp [Region.binds] at hd)
        simp only [putF]
        rw [hA]
        go_frame
        go_wp2_with fail
        exact hK.out _ _ _ (by rw [hA]; kernel_rfl) (Below.refl _ _) rfl
      · intro K L us W hK1 hLk hX hB _ hd
        have hK0 := fun v A' W' h1 h2 h3 => hK1 v A' W' h1 h2 h3 (by simpa [updF] using hX)
        have HX := hid hX
        have hK := hid hK0; clear hK0 hK1 hX
        have HBW := hid hB
        have hsW := hB.size
        have G0 := hid (heap_still hB F0.out)
        (try simp [Region.binds] at hd)
        have e0 : us 5 = _ := hd
        simp only [putF]
        rw [hA, e0]
        go_frame
        go_wp2_with fail
        exact hK.out _ _ _ (by rw [hA]; simp only [putF]; rw [e0]; kernel_rfl) (Below.refl _ _) rfl
      · intro K L us W hK1 hLk hX hB _ hd
        have hK0 := fun v A' W' h1 h2 h3 => hK1 v A' W' h1 h2 h3 (by simpa [updF] using hX)
        have HX := hid hX
        have hK := hid hK0; clear hK0 hK1 hX
        have HBW := hid hB
        have hsW := hB.size
        have G0 := hid (heap_still hB F0.out)
        (try simp [Region.binds] at hd)
        have e0 : us 6 = _ := hd
        have c0 : W.cell? ⟨w.heap.size + 1, 5, none⟩ = some (.int .i64 _) := (cell_row (j := 5) G0.out).trans rfl
        simp only [putF]
        rw [hA, e0]
        go_frame
        go_wp2_with fail
        exact hK.out _ _ _ (by rw [hA]; simp only [putF]; rw [e0]; kernel_rfl) (Below.refl _ _) rfl
      · intro K L us W hK1 hLk hX hB _ hd
        have hK0 := fun v A' W' h1 h2 h3 => hK1 v A' W' h1 h2 h3 (by simpa [updF] using hX)
        have HX := hid hX
        have hK := hid hK0; clear hK0 hK1 hX
        have HBW := hid hB
        have hsW := hB.size
        have G0 := hid (heap_still hB F0.out)
        (try simp [Region.binds] at hd)
        simp only [putF]
        rw [hA]
        go_frame
        go_wp2_with fail
        exact hK.out _ _ _ (by rw [hA]; kernel_rfl) (Below.refl _ _) rfl
      · intro K L us W hK1 hLk hX hB _ hd
        have hK0 := fun v A' W' h1 h2 h3 => hK1 v A' W' h1 h2 h3 (by simpa [updF] using hX)
        have HX := hid hX
        have hK := hid hK0; clear hK0 hK1 hX
        have HBW := hid hB
        have hsW := hB.size
        have G0 := hid (heap_still hB F0.out)
        (try simp [Region.binds] at hd)
        have e0 : us 8 = _ := hd
        simp only [putF]
        rw [hA, e0]
        go_frame
        go_wp2_with fail
        exact hK.out _ _ _ (by rw [hA]; simp only [putF]; rw [e0]; kernel_rfl) (Below.refl _ _) rfl
      · intro K L us W hK1 hLk hX hB _ hd
        have hK0 := fun v A' W' h1 h2 h3 => hK1 v A' W' h1 h2 h3 (by simpa [updF] using hX)
        have HX := hid hX
        have hK := hid hK0; clear hK0 hK1 hX
        have HBW := hid hB
        have hsW := hB.size
        have G0 := hid (heap_still hB F0.out)
        (try simp [Region.binds] at hd)
        have e0 : us 9 = _ := hd
        have c0 : W.cell? ⟨w.heap.size + 1, 6, none⟩ = some (.int .i64 _) := (cell_row (j := 6) G0.out).trans rfl
        simp only [putF]
        rw [hA, e0]
        go_frame
        go_wp2_with fail
        exact hK.out _ _ _ (by rw [hA]; simp only [putF]; rw [e0]; kernel_rfl) (Below.refl _ _) rfl
      · intro K L us W hK1 hLk hX hB _ hd
        have hK0 := fun v A' W' h1 h2 h3 => hK1 v A' W' h1 h2 h3 (by simpa [updF] using hX)
        have HX := hid hX
        have hK := hid hK0; clear hK0 hK1 hX
        have HBW := hid hB
        have hsW := hB.size
        have G0 := hid (heap_still hB F0.out)
        (try simp [Region.binds] at hd)
        simp only [putF]
        rw [hA]
        go_frame
        go_wp2_with fail
        exact hK.out _ _ _ (by rw [hA]; kernel_rfl) (Below.refl _ _) rfl
      · intro K L us W hK1 hLk hX hB _ hd
        have hK0 := fun v A' W' h1 h2 h3 => hK1 v A' W' h1 h2 h3 (by simpa [updF] using hX)
        have HX := hid hX
        have hK := hid hK0; clear hK0 hK1 hX
        have HBW := hid hB
        have hsW := hB.size
        have G0 := hid (heap_still hB F0.out)
        (try simp [Region.binds] at hd)
        have e0 : us 11 = _ := hd
        simp only [putF]
        rw [hA, e0]
        go_frame
        go_wp2_with fail
        exact hK.out _ _ _ (by rw [hA]; simp only [putF]; rw [e0]; kernel_rfl) (Below.refl _ _) rfl
      · intro K L us W hK1 hLk hX hB _ hd
        have hK0 := fun v A' W' h1 h2 h3 => hK1 v A' W' h1 h2 h3 (by simpa [updF] using hX)
        have HX := hid hX
        have hK := hid hK0; clear hK0 hK1 hX
        have HBW := hid hB
        have hsW := hB.size
        have G0 := hid (heap_still hB F0.out)
        (try simp [Region.binds] at hd)
        have e0 : us 12 = _ := hd
        have c0 : W.cell? ⟨w.heap.size + 1, 7, none⟩ = some (.int .i64 _) := (cell_row (j := 7) G0.out).trans rfl
        simp only [putF]
        rw [hA, e0]
        go_frame
        go_wp2_with fail
        exact hK.out _ _ _ (by rw [hA]; simp only [putF]; rw [e0]; kernel_rfl) (Below.refl _ _) rfl
      · intro K L us W hK1 hLk hX hB _ hd
        have hK0 := fun v A' W' h1 h2 h3 => hK1 v A' W' h1 h2 h3 (by simpa [updF] using hX)
        have HX := hid hX
        have hK := hid hK0; clear hK0 hK1 hX
        have HBW := hid hB
        have hsW := hB.size
        have G0 := hid (heap_still hB F0.out)
        (try simp [Region.binds] at hd)
        simp only [putF]
        rw [hA]
        go_frame
        go_wp2_with fail
        exact hK.out _ _ _ (by rw [hA]; kernel_rfl) (Below.refl _ _) rfl
      · intro K L us W hK1 hLk hX hB _ hd
        have hK0 := fun v A' W' h1 h2 h3 => hK1 v A' W' h1 h2 h3 (by simpa [updF] using hX)
        have HX := hid hX
        have hK := hid hK0; clear hK0 hK1 hX
        have HBW := hid hB
        have hsW := hB.size
        have G0 := hid (heap_still hB F0.out)
        (try simp [Region.binds] at hd)
        have e0 : us 14 = _ := hd
        simp only [putF]
        rw [hA, e0]
        go_frame
        go_wp2_with fail
        exact hK.out _ _ _ (by rw [hA]; simp only [putF]; rw [e0]; kernel_rfl) (Below.refl _ _) rfl
      · intro K L us W hK1 hLk hX hB _ hd
        have hK0 := fun v A' W' h1 h2 h3 => hK1 v A' W' h1 h2 h3 (by simpa [updF] using hX)
        have HX := hid hX
        have hK := hid hK0; clear hK0 hK1 hX
        have HBW := hid hB
        have hsW := hB.size
        have G0 := hid (heap_still hB F0.out)
        (try simp [Region.binds] at hd)
        have e0 : us 15 = _ := hd
        have c0 : W.cell? ⟨w.heap.size + 1, 8, none⟩ = some (.int .i64 _) := (cell_row (j := 8) G0.out).trans rfl
        simp only [putF]
        rw [hA, e0]
        go_frame
        go_wp2_with fail
        exact hK.out _ _ _ (by rw [hA]; simp only [putF]; rw [e0]; kernel_rfl) (Below.refl _ _) rfl
      · intro K L us W hK1 hLk hX hB _ hd
        have hK0 := fun v A' W' h1 h2 h3 => hK1 v A' W' h1 h2 h3 (by simpa [updF] using hX)
        have HX := hid hX
        have hK := hid hK0; clear hK0 hK1 hX
        have HBW := hid hB
        have hsW := hB.size
        have G0 := hid (heap_still hB F0.out)
        (try simp [Region.binds] at hd)
        obtain ⟨e0, e1, e2, e3⟩ : us 7 = _ ∧ us 10 = _ ∧ us 13 = _ ∧ us 16 = _ := hd
        simp only [putF]
        rw [hA, e0, e1, e2, e3]
        go_frame
        go_wp2_with fail
        exact hK.out _ _ _ (by rw [hA]; simp only [putF]; rw [e0, e1, e2, e3]; kernel_rfl) ((Below.refl _ _).alloc (Nat.le_refl _) _) ⟨_, rfl, heap_alloc_at _ _ _ rfl⟩
      · intro K L us W hK1 hLk hX hB _ hd
        have hK0 := fun v A' W' h1 h2 h3 => hK1 v A' W' h1 h2 h3 (by simpa [updF] using hX)
        have HX := hid hX
        have hK := hid hK0; clear hK0 hK1 hX
        have HBW := hid hB
        have hsW := hB.size
        have G0 := hid (heap_still hB F0.out)
        (try simp [Region.binds] at hd)
        have hb1 : Bys (B3) W (us 4) := hd.1
        have hb2 : Ints 4 [a, b, c, d] W (us 17) := hd.2.1
        obtain ⟨g1, cap1, e1, _⟩ := own_shape hb1 (by first | (simp; done) | exact HL0.out.2.2.1)
        obtain ⟨g2, e2, hg2⟩ := hb2
        have e1' := e1
        have e2' := e2
        have HO := hid (show W.ownsRow 0 5 1 (.slice (some ⟨g1, 0, none⟩) (B3).length cap1) (B3).length (u8s (B3)) by rw [← e1]; exact hb1)
        have HG := hid hg2
        clear hb1
        simp only [putF]
        rw [hA, e1, e2]
        generalize hbn : (B3).length = bn at *
        have HBN := hid hbn
        have HL1 := hid (show bn ≤ 2000 by first | exact HL.out.2.2.1 | (rw [← hbn]; simp; done))
        have HL2 := hid (show 0 < bn by first | exact HL0.out.2.2.1 | (rw [← hbn]; simp; done))
        clear hbn hg2
        go_frame
        go_wp2_with fail
        refine (rSigneds_any g1 bn cap1 g2 0 4 4 [a, b, c, d] (B3) W HO.out HL1.out HL2.out (HBD.out.2.2.2.1) rfl (by omega) (fun i hi => cells_ints [a, b, c, d] HG.out rfl i hi) (Array.getElem?_eq_some_iff.1 HG.out).1).mono ?_
        rintro r W' ⟨⟨v, rfl, hv⟩, hbb⟩
        go_wp2_with fail
        exact hK.out _ _ _ (by rw [hA]; simp only [putF]; rw [e1', e2']; kernel_rfl) hbb (by unfold Bys; rw [HE4.out]; exact hv)
    case hs3 =>
      refine ⟨?_, trivial⟩
      intro K L us W3 hK0 hL hd hR
      have hK := hid hK0; clear hK0
      have hR2 := hid (hR.1 hL)
      simp only [putF]
      rw [hA]
      go_frame
      go_wp2_with fail
      exact hK.out _ _ _ (by rw [hA]; kernel_rfl) ⟨fun h => by simp at h, fun _ => hR2.out⟩
    case hend2 =>
      intro L us W2 hL hR
      obtain ⟨hB2, hb⟩ := hR.2 (hL 19 (by decide))
      have HB19 := hid (show Bys B4 W2 (us 19) from hb)
      have F1 := hid (heap_still hB2 F0.out)
      have HB2 := hid (HB1.out.trans (hB2.mono HB1.out.size))
      obtain ⟨g1, cap1, e1, _⟩ := own_shape HB19.out HL0.out.2.2.2
      have c0 : W2.cell? ⟨w.heap.size + 1, 9, none⟩ = some (.int .i64 g) := (cell_row (j := 9) F1.out).trans rfl
      simp only [putF, Nat.zero_add, Nat.reduceAdd]
      rw [e1] at HB19 ⊢
      rw [hA]
      clear hb hA e1 hL hR
      have hsz2 := hB2.size
      have HO19 := hid (show W2.ownsRow 0 5 1 (.slice (some ⟨g1, 0, none⟩) B4.length cap1) B4.length (u8s B4) from HB19.out)
      generalize hbn : B4.length = bn at *
      have HBN := hid hbn
      clear hbn
      go_frame
      go_wp2_with fail
      refine (rNumbers_any g1 bn cap1 W2.heap.size 0 1 1 [g] B4 _ (HO19.out.alloc _) HL.out.2.2.2 HL0.out.2.2.2 HBD.out.2.2.2.2 rfl (by omega) (fun i hi => cells_ints [g] (by repeat' (first | (refine heap_alloc_at _ _ _ ?_; (first | rfl | (simp; done) | (simp; omega))) | (refine heap_alloc_past _ _ _ _ ?_))) rfl i hi) (by simp)).mono ?_
      rintro r W3 ⟨⟨v, rfl, hv⟩, hb3⟩
      have HV := hid hv
      have HB3 := hid (HB2.out.trans (((Below.refl W2.heap.size W2).alloc (Nat.le_refl _) _ |>.trans (hb3.mono (by simp))).mono HB2.out.size))
      have HFB := hid (show fixBytes t x y z e a b c d g = B4 ++ encs encU [g] by rw [HE4.out, HE3.out, HE2.out, HE1.out]; rfl)
      clear hv hb3
      go_wp2_with fail
      go_ret2
      refine ⟨⟨_, rfl, fun h => absurd rfl h, fun _ => ?_⟩, HB3.out⟩
      rw [HFB.out]
      exact HV.out

set_option maxRecDepth 100000 in
theorem rEncodeFix_no (t x y z e a b c d g s0 s1 s2 : Int) (w : World) (h1 : fixB t x y z e a b c d g = false) :
    Calls Try.prog 59 #[.agg #[.bool false, .int .i64 t, .int .i64 x, .int .i64 y, .int .i64 z, .int .i64 e, .int .i64 a, .int .i64 b, .int .i64 c, .int .i64 d, .int .i64 g, .int .i64 s0, .int .i64 s1, .int .i64 s2]] w fun r w' => Enc 40 (fixBytes t x y z e a b c d g) r w' ∧ Below w.heap.size w w' := by
  have H1 := hid h1
  have HBw := hid (Below.refl w.heap.size w)
  clear h1
  go_enter Try.func59, Try.ntmps59
  go_wp2_with (first | (refine wpList_store_new rfl 41 (.tmp 4) (.tmp 29) rfl rfl rfl rfl size55 rfl rfl rfl ?_))
  refine (rFix_any _ _ _ _ _ _ _ _ _ _ _).mono ?_
  rintro r w1 ⟨rfl, hb⟩
  have HBw1 := hid (show Below w.heap.size w w1 by have hB0 := HBw.out; refine Below.trans ?_ (hb.mono ?_); (focus ((repeat' (first | (with_reducible exact Below.refl _ _) | (with_reducible assumption) | (with_reducible refine Below.alloc ?_ ?_ _) | (with_reducible refine Below.drew ?_) | (with_reducible refine below_drewN ?_ _) | (with_reducible refine Below.setCell ?_ ?_ _) | (with_reducible refine below_setRow ?_ ?_ _) | go_size)); done)); (focus (first | (simp; done) | (simp; omega) | (have hB1 := hB0.size; simp; omega))))
  have hsw1 := hb.size
  (try simp at hsw1)
  have hzw1 : w.heap.size < w1.heap.size := by omega
  obtain ⟨hcw1, hfw1⟩ := bcell hb
  have hkw1 := hid (fun n x => @heap_still _ _ n x hb)
  clear hb
  rw [H1.out]
  go_wp2_with fail
  go_ret2
  exact ⟨⟨_, rfl, fun _ => rfl, fun h => absurd h (by decide)⟩, HBw1.out⟩
set_option maxRecDepth 100000 in
theorem rEncodeFix_off (t x y z e a b c d g s0 s1 s2 : Int) (w : World) (h1 : fixB t x y z e a b c d g = true) (h2 : ([s0, s1, s2] == [0, 0, 0]) = false) :
    Calls Try.prog 59 #[.agg #[.bool false, .int .i64 t, .int .i64 x, .int .i64 y, .int .i64 z, .int .i64 e, .int .i64 a, .int .i64 b, .int .i64 c, .int .i64 d, .int .i64 g, .int .i64 s0, .int .i64 s1, .int .i64 s2]] w fun r w' => Enc 2 (fixBytes t x y z e a b c d g) r w' ∧ Below w.heap.size w w' := by
  have hq := eq57 s0 s1 s2 0 0 0
  rw [h2] at hq
  have H1 := hid h1
  have HBw := hid (Below.refl w.heap.size w)
  clear h1 h2
  go_enter Try.func59, Try.ntmps59
  go_wp2_with (first | (refine wpList_store_new rfl 41 (.tmp 4) (.tmp 29) rfl rfl rfl rfl size55 rfl rfl rfl ?_))
  refine (rFix_any _ _ _ _ _ _ _ _ _ _ _).mono ?_
  rintro r w1 ⟨rfl, hb⟩
  have HBw1 := hid (show Below w.heap.size w w1 by have hB0 := HBw.out; refine Below.trans ?_ (hb.mono ?_); (focus ((repeat' (first | (with_reducible exact Below.refl _ _) | (with_reducible assumption) | (with_reducible refine Below.alloc ?_ ?_ _) | (with_reducible refine Below.drew ?_) | (with_reducible refine below_drewN ?_ _) | (with_reducible refine Below.setCell ?_ ?_ _) | (with_reducible refine below_setRow ?_ ?_ _) | go_size)); done)); (focus (first | (simp; done) | (simp; omega) | (have hB1 := hB0.size; simp; omega))))
  have hsw1 := hb.size
  (try simp at hsw1)
  have hzw1 : w.heap.size < w1.heap.size := by omega
  obtain ⟨hcw1, hfw1⟩ := bcell hb
  have hkw1 := hid (fun n x => @heap_still _ _ n x hb)
  clear hb
  rw [H1.out]
  go_wp2_with fail
  go_ret2
  exact ⟨⟨_, rfl, fun _ => rfl, fun h => absurd h (by decide)⟩, HBw1.out⟩
set_option maxRecDepth 100000 in
set_option maxHeartbeats 800000 in
theorem rEncodeSync (t x y z e a b c d g s0 s1 s2 : Int) (w : World) :
    Calls Try.prog 59 #[.agg #[.bool true, .int .i64 t, .int .i64 x, .int .i64 y, .int .i64 z, .int .i64 e, .int .i64 a, .int .i64 b, .int .i64 c, .int .i64 d, .int .i64 g, .int .i64 s0, .int .i64 s1, .int .i64 s2]] w
      fun r w' => Enc (if syncB s0 s1 s2 = false then 41 else if (ten t x y z e a b c d g == ten 0 0 0 0 0 0 0 0 0 0) = false then 2 else 0) ([1] ++ encs encU [s0, s1, s2]) r w' ∧ Below w.heap.size w w' := by
  have hq := eq55 t x y z e a b c d g 0 0 0 0 0 0 0 0 0 0
  have HBw := hid (Below.refl w.heap.size w)
  by_cases h1 : syncB s0 s1 s2 = true
  · by_cases h2 : (ten t x y z e a b c d g == ten 0 0 0 0 0 0 0 0 0 0) = true
    · rw [h2] at hq
      rw [if_neg (by rw [h1]; simp), if_neg (by rw [h2]; simp)]
      have H1 := hid h1
      clear h1 h2
      go_enter Try.func59, Try.ntmps59
      go_wp2_with fail
      refine (rSync_any _ _ _ _).mono ?_
      rintro r w1 ⟨rfl, hb⟩
      have HBw1 := hid (show Below w.heap.size w w1 by have hB0 := HBw.out; refine Below.trans ?_ (hb.mono ?_); (focus ((repeat' (first | (with_reducible exact Below.refl _ _) | (with_reducible assumption) | (with_reducible refine Below.alloc ?_ ?_ _) | (with_reducible refine Below.drew ?_) | (with_reducible refine below_drewN ?_ _) | (with_reducible refine Below.setCell ?_ ?_ _) | (with_reducible refine below_setRow ?_ ?_ _) | go_size)); done)); (focus (first | (simp; done) | (simp; omega) | (have hB1 := hB0.size; simp; omega))))
      have hsw1 := hb.size
      (try simp at hsw1)
      have hzw1 : w.heap.size < w1.heap.size := by omega
      obtain ⟨hcw1, hfw1⟩ := bcell hb
      have hkw1 := hid (fun n x => @heap_still _ _ n x hb)
      clear hb
      rw [H1.out]
      go_wp2_with fail
      refine (rNumbers_any w1.heap.size 1 1 (w1.heap.size + 1) 0 3 3 [s0, s1, s2] [1] _ (own_lit rfl (by repeat' (first | (refine heap_alloc_at _ _ _ ?_; (first | rfl | (simp; done) | (simp; omega))) | (refine heap_alloc_past _ _ _ _ ?_)))) (by omega) (by decide) (sync_bd H1.out) rfl (by omega) (fun i hi => cells_ints [s0, s1, s2] (by repeat' (first | (refine heap_alloc_at _ _ _ ?_; (first | rfl | (simp; done) | (simp; omega))) | (refine heap_alloc_past _ _ _ _ ?_))) rfl i hi) (by simp)).mono ?_
      rintro r w2 ⟨⟨v, rfl, hv⟩, hb2⟩
      have HV := hid hv
      have HB2 := hid (show Below w.heap.size w w2 by
        have hB1 := HBw1.out
        refine Below.trans ?_ (hb2.mono (by simp; omega))
        (repeat' (first | (with_reducible exact Below.refl _ _) | (with_reducible assumption) | (with_reducible refine Below.alloc ?_ ?_ _) | (with_reducible refine Below.drew ?_) | (with_reducible refine below_drewN ?_ _) | (with_reducible refine Below.setCell ?_ ?_ _) | (with_reducible refine below_setRow ?_ ?_ _) | go_size)))
      clear hv hb2
      go_wp2_with fail
      go_ret2
      exact ⟨⟨_, rfl, fun h => absurd rfl h, fun _ => HV.out⟩, HB2.out⟩
    · have h2' := Bool.eq_false_iff.2 h2
      rw [h2'] at hq
      rw [if_neg (by rw [h1]; simp), if_pos h2']
      have H1 := hid h1
      clear h1 h2 h2'
      go_enter Try.func59, Try.ntmps59
      go_wp2_with fail
      refine (rSync_any _ _ _ _).mono ?_
      rintro r w1 ⟨rfl, hb⟩
      have HBw1 := hid (show Below w.heap.size w w1 by have hB0 := HBw.out; refine Below.trans ?_ (hb.mono ?_); (focus ((repeat' (first | (with_reducible exact Below.refl _ _) | (with_reducible assumption) | (with_reducible refine Below.alloc ?_ ?_ _) | (with_reducible refine Below.drew ?_) | (with_reducible refine below_drewN ?_ _) | (with_reducible refine Below.setCell ?_ ?_ _) | (with_reducible refine below_setRow ?_ ?_ _) | go_size)); done)); (focus (first | (simp; done) | (simp; omega) | (have hB1 := hB0.size; simp; omega))))
      have hsw1 := hb.size
      (try simp at hsw1)
      have hzw1 : w.heap.size < w1.heap.size := by omega
      obtain ⟨hcw1, hfw1⟩ := bcell hb
      have hkw1 := hid (fun n x => @heap_still _ _ n x hb)
      clear hb
      rw [H1.out]
      go_wp2_with fail
      go_ret2
      exact ⟨⟨_, rfl, fun _ => rfl, fun h => absurd h (by decide)⟩, HBw1.out⟩
  · have h1' := Bool.eq_false_iff.2 h1
    rw [if_pos h1']
    have H1 := hid h1'
    clear h1 h1'
    go_enter Try.func59, Try.ntmps59
    go_wp2_with fail
    refine (rSync_any _ _ _ _).mono ?_
    rintro r w1 ⟨rfl, hb⟩
    have HBw1 := hid (show Below w.heap.size w w1 by have hB0 := HBw.out; refine Below.trans ?_ (hb.mono ?_); (focus ((repeat' (first | (with_reducible exact Below.refl _ _) | (with_reducible assumption) | (with_reducible refine Below.alloc ?_ ?_ _) | (with_reducible refine Below.drew ?_) | (with_reducible refine below_drewN ?_ _) | (with_reducible refine Below.setCell ?_ ?_ _) | (with_reducible refine below_setRow ?_ ?_ _) | go_size)); done)); (focus (first | (simp; done) | (simp; omega) | (have hB1 := hB0.size; simp; omega))))
    have hsw1 := hb.size
    (try simp at hsw1)
    have hzw1 : w.heap.size < w1.heap.size := by omega
    obtain ⟨hcw1, hfw1⟩ := bcell hb
    have hkw1 := hid (fun n x => @heap_still _ _ n x hb)
    clear hb
    rw [H1.out]
    go_wp2_with fail
    go_ret2
    exact ⟨⟨_, rfl, fun _ => rfl, fun h => absurd h (by decide)⟩, HBw1.out⟩
end Go.Proofs.Ytpablkmdpoombaa

