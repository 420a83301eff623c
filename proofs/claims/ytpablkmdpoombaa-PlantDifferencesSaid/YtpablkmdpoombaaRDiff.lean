/- Difference 27 of the reference. (Printed by wip/gen_rdiff.py.) -/
import Derived.Test.YtpablkmdpoombaaHas
import Derived.Test.YtpablkmdpoombaaSortI
import Derived.Test.YtpablkmdpoombaaTlB
import Derived.Test.YtpablkmdpoombaaAidC
namespace Go.Proofs.Ytpablkmdpoombaa
open Go.RowKit

theorem size78d : (Try.prog.info? 78).map (·.size) = some 9 := by kernel_rfl
theorem info3d : (Try.prog.info? 3).map (fun i => (i.zero, i.size, i.bytes)) = some (some (.int .i64 0), 1, 8) := by kernel_rfl
def notIn (O : List Pt) (p : Pt) : Bool := !decide (p ∈ O)
theorem notIn_skip {O L : List Pt} {i : Nat} {p : Pt} (hp : L[i]? = some p) (h : decide (p ∈ O) = true) : (L.take (i + 1)).filter (notIn O) = (L.take i).filter (notIn O) := by
  rw [take_next hp, List.filter_append, List.filter_cons_of_neg (by unfold notIn; rw [h]; decide)]; simp
theorem notIn_push {O L : List Pt} {i : Nat} {p : Pt} (hp : L[i]? = some p) (h : decide (p ∈ O) = false) : (L.take (i + 1)).filter (notIn O) = (L.take i).filter (notIn O) ++ [p] := by
  rw [take_next hp, List.filter_append, List.filter_cons_of_pos (by unfold notIn; rw [h]; rfl)]; simp
theorem notIn_len {O L : List Pt} {i : Nat} : ((L.take i).filter (notIn O)).length ≤ i :=
  Nat.le_trans (List.length_filter_le _ _) (by rw [List.length_take]; exact Nat.min_le_left _ _)
theorem ids_sorted {M : List Pt} (h : M.Pairwise (fun p q => ¬ q.id < p.id)) : (M.map Pt.id).Pairwise (fun a b => a ≤ b) := List.Pairwise.map _ (fun _ _ h => by omega) h
theorem DiffRes.made {O P L M : List Pt} (hO : validL O = true) (hP : validL P = true) (h1 : L.Perm P) (h2 : L.Pairwise (fun p q => ¬ q.id < p.id)) (h3 : M.Perm O) (h4 : M.Pairwise (fun p q => ¬ q.id < p.id)) :
    DiffRes O P 0 (L.filter (notIn O)) ((M.filter (notIn P)).map Pt.id) :=
  ⟨by rw [hO, hP]; rfl, fun h => absurd rfl h, fun _ => ⟨h1.filter _, h2.filter _⟩, fun _ => ⟨(h3.filter _).map _, ids_sorted (h4.filter _)⟩⟩
set_option maxRecDepth 100000 in
set_option maxHeartbeats 6400000 in
theorem rdiff_any (ov pv : Value) (O P : List Pt) (w : World) (hO : PtsV w ov O) (hO0 : NilV ov) (hP : PtsV w pv P) (hP0 : NilV pv) :
    Calls Try.prog 27 #[ov, pv] w fun r w' => (∃ av dv e A D, r = .returned (.tuple #[av, dv, .int .i64 e]) ∧ OwnP w' w.heap.size av A ∧ OwnI w' w.heap.size dv D ∧ DiffRes O P e A D) ∧ Below w.heap.size w w' := by
  obtain ⟨vo, hvo⟩ : ∃ b, b = validL O := ⟨_, rfl⟩
  obtain ⟨vp, hvp⟩ : ∃ b, b = validL P := ⟨_, rfl⟩
  have HCO := hid (fun W (hb : Below w.heap.size w W) => hvo ▸ rvalidP_list ov O W (hO.still hb))
  have HCP := hid (fun W (hb : Below w.heap.size w W) => hvp ▸ rvalidP_list pv P W (hP.still hb))
  have HVO1 := hid hvo.symm
  have HVP1 := hid hvp.symm
  have HO := hid hO
  have HPp := hid hP
  clear hvo hvp
  obtain ⟨oa, oc, rfl, _⟩ := hO
  obtain ⟨pa, pc, rfl, _⟩ := hP
  generalize O.length = no at *
  generalize P.length = np at *
  obtain ⟨i0, hi, hz0, hz1, hz2⟩ := info_parts info36
  have HI := hid hi
  have HZ0 := hid hz0
  have HZ1 := hid hz1
  have HZ2 := hid hz2
  clear hi hz0 hz1 hz2
  obtain ⟨j0, hi, hz0, hz1, hz2⟩ := info_parts info3d
  have JI := hid hi
  have JZ0 := hid hz0
  have JZ1 := hid hz1
  have JZ2 := hid hz2
  clear hi hz0 hz1 hz2
  go_enter Try.func27, Try.ntmps27
  go_wp2_with fail
  refine (HCO.out _ (Below.refl _ _)).mono ?_
  rintro r w0 ⟨rfl, hb0⟩
  have HBW0 := hid hb0
  clear hb0
  cases vo
  · have HR := hid (DiffRes.bad (P := P) (Or.inl HVO1.out))
    go_wp2_with fail
    go_ret3
    exact ⟨⟨_, _, _, [], [], rfl, OwnR.nil _ _ _ _, OwnR.nil _ _ _ _, HR.out⟩, HBW0.out⟩
  go_wp2_with fail
  refine (HCP.out _ HBW0.out).mono ?_
  rintro r w1 ⟨rfl, hb⟩
  have HBW1 := hid (HBW0.out.trans (hb.mono HBW0.out.size))
  clear hb HBW0
  cases vp
  · have HR := hid (DiffRes.bad (O := O) (Or.inr HVP1.out))
    go_wp2_with fail
    go_ret3
    exact ⟨⟨_, _, _, [], [], rfl, OwnR.nil _ _ _ _, OwnR.nil _ _ _ _, HR.out⟩, HBW1.out⟩
  have HVO0 := hid (show validL O = true from HVO1.out)
  have HVP0 := hid (show validL P = true from HVP1.out)
  have HVO := hid (validL_facts HVO0.out).1
  have HVP := hid (validL_facts HVP0.out).1
  have HLO := hid (show O.length ≤ maxLen by have := HVO.out; unfold maxLen; omega)
  have HLP := hid (show P.length ≤ maxLen by have := HVP.out; unfold maxLen; omega)
  go_wp2_with fail
  refine (rsorted_any _ P w1 (HPp.out.still HBW1.out) hP0 (by have := HVP.out; omega)).mono ?_
  rintro r w2 ⟨⟨lv, rfl, L, hL, hLp, hLs⟩, hb⟩
  have HBW2 := hid (HBW1.out.trans (hb.mono HBW1.out.size))
  have hz2 := HBW2.out.size
  have HPO := hid (HO.out.still HBW2.out)
  have HPP := hid (HPp.out.still HBW2.out)
  have HLP1 := hid hLp
  have HLS := hid hLs
  have HLL := hid (show L.length ≤ 1024 by rw [hLp.length_eq]; exact HVP.out)
  obtain ⟨la, lc, hlv, hlr⟩ := OwnP.ptsV hL
  subst hlv
  have HLR := hid hlr
  clear hb hL hLp hLs hlr HBW1
  obtain ⟨n, hn⟩ : ∃ n, n = L.length := ⟨_, rfl⟩
  have HNn := hid hn
  have hn9 : n ≤ 1024 := by rw [hn]; exact HLL.out
  rw [← hn]
  clear hn
  go_wp2_with fail
  go_loopw [4, 22] (fun ov' iv W => ∃ (i : Nat) (ov : Value), ov = ov' ∧ i ≤ n ∧ iv = .int .i64 (i : Int) ∧ OwnP W w2.heap.size ov ((L.take i).filter (notIn O)) ∧ Below w2.heap.size w2 W) (fun _ iv _ => n - (intOf iv).toNat)
  case atStart => exact ⟨0, _, rfl, by omega, rfl, OwnR.nil _ _ _ _, Below.refl _ _⟩
  case round =>
    obtain ⟨i, ov, rfl, hi, rfl, hov, hB⟩ := hrel
    have HOV := hid hov
    have HB4 := hid hB
    have hz4 := hB.size
    clear hov hB
    by_cases hlt : i < n
    · have d2 : decide ((i : Int) < (n : Int)) = true := decide_eq_true (by omega)
      obtain ⟨p, hp⟩ : ∃ p, L[i]? = some p := ⟨_, List.getElem?_eq_getElem (by rw [← HNn.out]; exact hlt)⟩
      obtain ⟨b, off, rfl, hbw, hrows⟩ := HLR.out.resolve_left (fun h => by rw [h] at hp; simp at hp)
      have hcs : ∀ j, j < 9 → wr.cell? ⟨b, off + i * 9 + j, none⟩ = p.row[j]? := fun j hj => by
        rw [HB4.out.cell hbw, hrows i p.row (by rw [List.getElem?_map, hp]; rfl) j hj]
      have HP := hid hp
      clear hrows hp
      obtain ⟨p0, p1, p2, p3, p4, p5, p6, p7, p8⟩ := p
      simp only [Pt.row] at hcs
      have c0 : wr.cell? ⟨b, off + i * 9, none⟩ = some (.int .i64 p0) := hcs 0 (by decide)
      have c1 : wr.cell? ⟨b, off + i * 9 + 1, none⟩ = some (.int .i64 p1) := hcs 1 (by decide)
      have c2 : wr.cell? ⟨b, off + i * 9 + 2, none⟩ = some (.int .i64 p2) := hcs 2 (by decide)
      have c3 : wr.cell? ⟨b, off + i * 9 + 3, none⟩ = some (.int .i64 p3) := hcs 3 (by decide)
      have c4 : wr.cell? ⟨b, off + i * 9 + 4, none⟩ = some (.int .i64 p4) := hcs 4 (by decide)
      have c5 : wr.cell? ⟨b, off + i * 9 + 5, none⟩ = some (.int .i64 p5) := hcs 5 (by decide)
      have c6 : wr.cell? ⟨b, off + i * 9 + 6, none⟩ = some (.int .i64 p6) := hcs 6 (by decide)
      have c7 : wr.cell? ⟨b, off + i * 9 + 7, none⟩ = some (.int .i64 p7) := hcs 7 (by decide)
      have c8 : wr.cell? ⟨b, off + i * 9 + 8, none⟩ = some (.int .i64 p8) := hcs 8 (by decide)
      clear hcs
      go_upto_region 6 with fail
      refine gen_world (fun W5 hW5 => ?_)
      have HP5 := hid (show W5.heap[wr.heap.size]? = some (.cells #[.int .i64 p0, .int .i64 p1, .int .i64 p2, .int .i64 p3, .int .i64 p4, .int .i64 p5, .int .i64 p6, .int .i64 p7, .int .i64 p8] 78) by rw [hW5]; exact heap_alloc_at _ _ _ rfl)
      have hb5 : Below wr.heap.size wr W5 := by rw [hW5]; exact (Below.refl _ _).alloc (Nat.le_refl _) _
      have HB5 := hid (HB4.out.trans (hb5.mono hz4))
      have HOX := hid (OwnR.grow' HOV.out hb5)
      clear hW5 hb5 c0 c1 c2 c3 c4 c5 c6 c7 c8 HOV
      obtain ⟨wb, hwb⟩ : ∃ wb, wb = decide ((⟨p0, p1, p2, p3, p4, p5, p6, p7, p8⟩ : Pt) ∈ O) := ⟨_, rfl⟩
      have HWN := hid (hwb ▸ has_any _ O (⟨p0, p1, p2, p3, p4, p5, p6, p7, p8⟩ : Pt) W5 (HPO.out.still HB5.out) HLO.out)
      have HNO := hid (fun h : wb = true => notIn_skip (O := O) HP.out (hwb.symm.trans h))
      have HYES := hid (fun h : wb = false => notIn_push (O := O) HP.out (hwb.symm.trans h))
      clear hwb
      go_wp2_with (first | (refine wpList_load_at rfl 78 (.tmp 8) rfl rfl HP5.out Try.underlying78 rfl size78d rfl ?_))
      refine HWN.out.mono ?_
      rintro r w6 ⟨rfl, hb⟩
      have HB6 := hid (HB5.out.trans (hb.mono HB5.out.size))
      have HO6 := hid (OwnR.grow' HOX.out hb)
      have HP6 := hid (heap_still hb HP5.out)
      clear hb HWN HOX HB5 HP5
      cases wb
      · have HF := hid (HYES.out rfl)
        clear HNO HYES
        have b0 : w6.cell? ⟨wr.heap.size, 0, none⟩ = some (.int .i64 p0) := (cell_row (j := 0) HP6.out).trans rfl
        have b1 : w6.cell? ⟨wr.heap.size, 1, none⟩ = some (.int .i64 p1) := (cell_row (j := 1) HP6.out).trans rfl
        have b2 : w6.cell? ⟨wr.heap.size, 2, none⟩ = some (.int .i64 p2) := (cell_row (j := 2) HP6.out).trans rfl
        have b3 : w6.cell? ⟨wr.heap.size, 3, none⟩ = some (.int .i64 p3) := (cell_row (j := 3) HP6.out).trans rfl
        have b4 : w6.cell? ⟨wr.heap.size, 4, none⟩ = some (.int .i64 p4) := (cell_row (j := 4) HP6.out).trans rfl
        have b5 : w6.cell? ⟨wr.heap.size, 5, none⟩ = some (.int .i64 p5) := (cell_row (j := 5) HP6.out).trans rfl
        have b6 : w6.cell? ⟨wr.heap.size, 6, none⟩ = some (.int .i64 p6) := (cell_row (j := 6) HP6.out).trans rfl
        have b7 : w6.cell? ⟨wr.heap.size, 7, none⟩ = some (.int .i64 p7) := (cell_row (j := 7) HP6.out).trans rfl
        have b8 : w6.cell? ⟨wr.heap.size, 8, none⟩ = some (.int .i64 p8) := (cell_row (j := 8) HP6.out).trans rfl
        have HRK := hid (RowsAt.one (heap_alloc_at w6 _ _ rfl) : RowsAt (w6.alloc (.cells #[.int .i64 p0, .int .i64 p1, .int .i64 p2, .int .i64 p3, .int .i64 p4, .int .i64 p5, .int .i64 p6, .int .i64 p7, .int .i64 p8] 78)) w6.heap.size 0 9 [[.int .i64 p0, .int .i64 p1, .int .i64 p2, .int .i64 p3, .int .i64 p4, .int .i64 p5, .int .i64 p6, .int .i64 p7, .int .i64 p8]])
        have HOA := hid (OwnR.grow' HO6.out ((Below.refl _ _).alloc (Nat.le_refl _) _) : OwnR (w6.alloc (.cells #[.int .i64 p0, .int .i64 p1, .int .i64 p2, .int .i64 p3, .int .i64 p4, .int .i64 p5, .int .i64 p6, .int .i64 p7, .int .i64 p8] 78)) w2.heap.size 78 9 ov (((L.take i).filter (notIn O)).map Pt.row))
        have HBA := hid (HB6.out.alloc HB6.out.size _ : Below w2.heap.size w2 (w6.alloc (.cells #[.int .i64 p0, .int .i64 p1, .int .i64 p2, .int .i64 p3, .int .i64 p4, .int .i64 p5, .int .i64 p6, .int .i64 p7, .int .i64 p8] 78)))
        have hle := notIn_len (O := O) (L := L) (i := i)
        have HL1 := hid (show (((L.take i).filter (notIn O)).map Pt.row).length + 1 ≤ maxLen by rw [List.length_map]; unfold maxLen; omega)
        have HL2 := hid (show ((((L.take i).filter (notIn O)).map Pt.row).length + 1) * 72 ≤ 140737488355328 by rw [List.length_map]; omega)
        clear hle HO6
        go_wp2_with (first
          | (at_builtin
             refine wpList_append_rows rfl (.tmp 30) (.tmp 32) 22 rfl w2.heap.size 78 i0 _ 9 72 Try.underlying22 HI.out HZ0.out HZ1.out HZ2.out rfl (by decide) _ (((L.take i).filter (notIn O)).map Pt.row) [[.int .i64 p0, .int .i64 p1, .int .i64 p2, .int .i64 p3, .int .i64 p4, .int .i64 p5, .int .i64 p6, .int .i64 p7, .int .i64 p8]] rfl HOA.out w6.heap.size 0 1 1 rfl rfl HRK.out (wide9d _ _ _ _ _ _ _ _ _) HL1.out HL2.out HBA.out.size ?_
             intro v7 W7 hown7 hg7 z7
             clear z7
             have HO7 := hid (show OwnP W7 w2.heap.size v7 ((L.take (i + 1)).filter (notIn O)) by unfold OwnP; rw [HF.out, List.map_append]; exact hown7)
             have HB7 := hid (show Below w2.heap.size w2 W7 from HBA.out.grown hg7 HBA.out.size (fun k hk => OwnR.ownBlock HOA.out k hk))
             clear hown7 hg7)
          | (refine wpList_load_at rfl 78 (.tmp 8) rfl rfl HP6.out Try.underlying78 rfl size78d rfl ?_))
        exact ⟨⟨i + 1, _, rfl, by omega, by go_num, HO7.out, HB7.out⟩, by simp [intOf]; omega⟩
      · have HF := hid (HNO.out rfl)
        clear HNO HYES
        go_wp2_with fail
        exact ⟨⟨i + 1, _, rfl, by omega, by go_num, by rw [HF.out]; exact HO6.out, HB6.out⟩, by simp [intOf]; omega⟩
    · obtain rfl : i = n := by omega
      have d2 : decide ((i : Int) < (i : Int)) = false := by simp
      have HAX := hid (show OwnP wr w2.heap.size ov (L.filter (notIn O)) by have h1 := HOV.out; rwa [HNn.out, List.take_length] at h1)
      have HBW3 := hid (HBW2.out.trans (HB4.out.mono hz2))
      have HPO3 := hid (HPO.out.still HB4.out)
      have HPP3 := hid (HPP.out.still HB4.out)
      clear HOV
      go_wp2_with fail
      refine (rsorted_any _ O wr HPO3.out hO0 (by have := HVO.out; omega)).mono ?_
      rintro r w4 ⟨⟨sv, rfl, M, hM, hMp, hMs⟩, hb⟩
      have HAA := hid (OwnR.grow' HAX.out hb)
      have HPP4 := hid (HPP3.out.still hb)
      have HBW4 := hid (HBW3.out.trans (hb.mono HBW3.out.size))
      have hz4w := HBW4.out.size
      have HRES := hid (DiffRes.made HVO0.out HVP0.out HLP1.out (HLS.out.imp (fun {_ _} h => by omega)) hMp (hMs.imp (fun {_ _} h => by omega)))
      have HML := hid (show M.length ≤ 1024 by rw [hMp.length_eq]; exact HVO.out)
      obtain ⟨sa, sc, hsv, hsr⟩ := OwnP.ptsV hM
      subst hsv
      have HMR := hid hsr
      clear hb hM hMp hMs hsr HB4 HAX HPO3 HPP3 HBW3
      obtain ⟨m, hm⟩ : ∃ m, m = M.length := ⟨_, rfl⟩
      have HNm := hid hm
      have hm9 : m ≤ 1024 := by rw [hm]; exact HML.out
      rw [← hm]
      clear hm
      go_wp2_with fail
      go_loopw [5, 38] (fun ov' iv W => ∃ (i : Nat) (ov : Value), ov = ov' ∧ i ≤ m ∧ iv = .int .i64 (i : Int) ∧ OwnI W w4.heap.size ov (((M.take i).filter (notIn P)).map Pt.id) ∧ Below w4.heap.size w4 W) (fun _ iv _ => m - (intOf iv).toNat)
      case atStart => exact ⟨0, _, rfl, by omega, rfl, OwnR.nil _ _ _ _, Below.refl _ _⟩
      case round =>
        obtain ⟨i, ov, rfl, hi, rfl, hov, hB⟩ := hrel
        have HOV := hid hov
        have HB4 := hid hB
        have hz4 := hB.size
        clear hov hB
        by_cases hlt : i < m
        · have d2 : decide ((i : Int) < (m : Int)) = true := decide_eq_true (by omega)
          obtain ⟨p, hp⟩ : ∃ p, M[i]? = some p := ⟨_, List.getElem?_eq_getElem (by rw [← HNm.out]; exact hlt)⟩
          obtain ⟨b, off, rfl, hbw, hrows⟩ := HMR.out.resolve_left (fun h => by rw [h] at hp; simp at hp)
          have hcs : ∀ j, j < 9 → wr.cell? ⟨b, off + i * 9 + j, none⟩ = p.row[j]? := fun j hj => by
            rw [HB4.out.cell hbw, hrows i p.row (by rw [List.getElem?_map, hp]; rfl) j hj]
          have HP := hid hp
          clear hrows hp
          obtain ⟨p0, p1, p2, p3, p4, p5, p6, p7, p8⟩ := p
          simp only [Pt.row] at hcs
          have c0 : wr.cell? ⟨b, off + i * 9, none⟩ = some (.int .i64 p0) := hcs 0 (by decide)
          have c1 : wr.cell? ⟨b, off + i * 9 + 1, none⟩ = some (.int .i64 p1) := hcs 1 (by decide)
          have c2 : wr.cell? ⟨b, off + i * 9 + 2, none⟩ = some (.int .i64 p2) := hcs 2 (by decide)
          have c3 : wr.cell? ⟨b, off + i * 9 + 3, none⟩ = some (.int .i64 p3) := hcs 3 (by decide)
          have c4 : wr.cell? ⟨b, off + i * 9 + 4, none⟩ = some (.int .i64 p4) := hcs 4 (by decide)
          have c5 : wr.cell? ⟨b, off + i * 9 + 5, none⟩ = some (.int .i64 p5) := hcs 5 (by decide)
          have c6 : wr.cell? ⟨b, off + i * 9 + 6, none⟩ = some (.int .i64 p6) := hcs 6 (by decide)
          have c7 : wr.cell? ⟨b, off + i * 9 + 7, none⟩ = some (.int .i64 p7) := hcs 7 (by decide)
          have c8 : wr.cell? ⟨b, off + i * 9 + 8, none⟩ = some (.int .i64 p8) := hcs 8 (by decide)
          clear hcs
          go_upto_region 12 with fail
          refine gen_world (fun W5 hW5 => ?_)
          have HP5 := hid (show W5.heap[wr.heap.size]? = some (.cells #[.int .i64 p0, .int .i64 p1, .int .i64 p2, .int .i64 p3, .int .i64 p4, .int .i64 p5, .int .i64 p6, .int .i64 p7, .int .i64 p8] 78) by rw [hW5]; exact heap_alloc_at _ _ _ rfl)
          have hb5 : Below wr.heap.size wr W5 := by rw [hW5]; exact (Below.refl _ _).alloc (Nat.le_refl _) _
          have HB5 := hid (HB4.out.trans (hb5.mono hz4))
          have HOX := hid (OwnR.grow' HOV.out hb5)
          clear hW5 hb5 c0 c1 c2 c3 c4 c5 c6 c7 c8 HOV
          obtain ⟨wb, hwb⟩ : ∃ wb, wb = decide ((⟨p0, p1, p2, p3, p4, p5, p6, p7, p8⟩ : Pt) ∈ P) := ⟨_, rfl⟩
          have HWN := hid (hwb ▸ has_any _ P (⟨p0, p1, p2, p3, p4, p5, p6, p7, p8⟩ : Pt) W5 (HPP4.out.still HB5.out) HLP.out)
          have HNO := hid (fun h : wb = true => notIn_skip (O := P) HP.out (hwb.symm.trans h))
          have HYES := hid (fun h : wb = false => notIn_push (O := P) HP.out (hwb.symm.trans h))
          clear hwb
          go_wp2_with (first | (refine wpList_load_at rfl 78 (.tmp 10) rfl rfl HP5.out Try.underlying78 rfl size78d rfl ?_))
          refine HWN.out.mono ?_
          rintro r w6 ⟨rfl, hb⟩
          have HB6 := hid (HB5.out.trans (hb.mono HB5.out.size))
          have HO6 := hid (OwnR.grow' HOX.out hb)
          have HP6 := hid (heap_still hb HP5.out)
          clear hb HWN HOX HB5 HP5
          cases wb
          · have HF := hid (HYES.out rfl)
            clear HNO HYES
            have b0 : w6.cell? ⟨wr.heap.size, 0, none⟩ = some (.int .i64 p0) := (cell_row (j := 0) HP6.out).trans rfl
            have b1 : w6.cell? ⟨wr.heap.size, 1, none⟩ = some (.int .i64 p1) := (cell_row (j := 1) HP6.out).trans rfl
            have b2 : w6.cell? ⟨wr.heap.size, 2, none⟩ = some (.int .i64 p2) := (cell_row (j := 2) HP6.out).trans rfl
            have b3 : w6.cell? ⟨wr.heap.size, 3, none⟩ = some (.int .i64 p3) := (cell_row (j := 3) HP6.out).trans rfl
            have b4 : w6.cell? ⟨wr.heap.size, 4, none⟩ = some (.int .i64 p4) := (cell_row (j := 4) HP6.out).trans rfl
            have b5 : w6.cell? ⟨wr.heap.size, 5, none⟩ = some (.int .i64 p5) := (cell_row (j := 5) HP6.out).trans rfl
            have b6 : w6.cell? ⟨wr.heap.size, 6, none⟩ = some (.int .i64 p6) := (cell_row (j := 6) HP6.out).trans rfl
            have b7 : w6.cell? ⟨wr.heap.size, 7, none⟩ = some (.int .i64 p7) := (cell_row (j := 7) HP6.out).trans rfl
            have b8 : w6.cell? ⟨wr.heap.size, 8, none⟩ = some (.int .i64 p8) := (cell_row (j := 8) HP6.out).trans rfl
            have HRK := hid (RowsAt.one (heap_alloc_at w6 _ _ rfl) : RowsAt (w6.alloc (.cells #[.int .i64 p0] 3)) w6.heap.size 0 1 [[.int .i64 p0]])
            have HOA := hid (OwnR.grow' HO6.out ((Below.refl _ _).alloc (Nat.le_refl _) _) : OwnR (w6.alloc (.cells #[.int .i64 p0] 3)) w4.heap.size 3 1 ov ((((M.take i).filter (notIn P)).map Pt.id).map iRow))
            have HBA := hid (HB6.out.alloc HB6.out.size _ : Below w4.heap.size w4 (w6.alloc (.cells #[.int .i64 p0] 3)))
            have hle := notIn_len (O := P) (L := M) (i := i)
            have HL1 := hid (show ((((M.take i).filter (notIn P)).map Pt.id).map iRow).length + 1 ≤ maxLen by rw [List.length_map, List.length_map]; unfold maxLen; omega)
            have HL2 := hid (show (((((M.take i).filter (notIn P)).map Pt.id).map iRow).length + 1) * 8 ≤ 140737488355328 by rw [List.length_map, List.length_map]; omega)
            clear hle HO6
            go_wp2_with (first
              | (at_builtin
                 refine wpList_append_rows rfl (.tmp 46) (.tmp 49) 36 rfl w4.heap.size 3 j0 _ 1 8 Try.underlying36 JI.out JZ0.out JZ1.out JZ2.out rfl (by decide) _ ((((M.take i).filter (notIn P)).map Pt.id).map iRow) [[.int .i64 p0]] rfl HOA.out w6.heap.size 0 1 1 rfl rfl HRK.out (iRow_wide [p0]) HL1.out HL2.out HBA.out.size ?_
                 intro v7 W7 hown7 hg7 z7
                 clear z7
                 have HO7 := hid (show OwnI W7 w4.heap.size v7 (((M.take (i + 1)).filter (notIn P)).map Pt.id) by unfold OwnI; rw [HF.out, List.map_append, List.map_append]; exact hown7)
                 have HB7 := hid (show Below w4.heap.size w4 W7 from HBA.out.grown hg7 HBA.out.size (fun k hk => OwnR.ownBlock HOA.out k hk))
                 clear hown7 hg7))
            exact ⟨⟨i + 1, _, rfl, by omega, by go_num, HO7.out, HB7.out⟩, by simp [intOf]; omega⟩
          · have HF := hid (HNO.out rfl)
            clear HNO HYES
            go_wp2_with fail
            exact ⟨⟨i + 1, _, rfl, by omega, by go_num, by rw [HF.out]; exact HO6.out, HB6.out⟩, by simp [intOf]; omega⟩
        · obtain rfl : i = m := by omega
          have d2 : decide ((i : Int) < (i : Int)) = false := by simp
          have HDA := hid (show OwnI wr w4.heap.size ov ((M.filter (notIn P)).map Pt.id) by have h1 := HOV.out; rwa [HNm.out, List.take_length] at h1)
          clear HOV
          go_wp2_with fail
          go_ret3
          exact ⟨⟨_, _, _, _, _, rfl, OwnR.mono (OwnR.grow' HAA.out HB4.out) hz2, OwnR.mono HDA.out hz4w, HRES.out⟩, HBW4.out.trans (HB4.out.mono hz4w)⟩
end Go.Proofs.Ytpablkmdpoombaa
