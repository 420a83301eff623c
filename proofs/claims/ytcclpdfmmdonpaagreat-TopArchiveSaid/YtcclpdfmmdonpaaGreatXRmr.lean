/- Texts of the seat Yteanlcefdoigcaa, turned to this one by wip/port.py: UpdX RMrg UpdLaw. -/
import Derived.Test.YtcclpdfmmdonpaaGreatRows
import Derived.Test.YtcclpdfmmdonpaaGreatXBas
import Derived.Test.YtcclpdfmmdonpaaGreatXArg
import Derived.Test.YtcclpdfmmdonpaaGreatXMap
import Derived.Test.YtcclpdfmmdonpaaGreatXVal
import Derived.Test.YtcclpdfmmdonpaaGreatXSrt
import Derived.Test.YtcclpdfmmdonpaaGreatXLay
import Derived.Test.YtcclpdfmmdonpaaGreatXRst
import Derived.Test.YtcclpdfmmdonpaaGreatXRla
import Derived.Test.YtcclpdfmmdonpaaGreatXTil
import Derived.Test.YtcclpdfmmdonpaaGreatXRtl
import Derived.Test.YtcclpdfmmdonpaaGreatXApp
namespace Go.Proofs.YtcclpdfmmdonpaaGreat
open Go.ChangeShapes Go.WideShapes Go.RowKit Go.Maps Go.Sort
section
variable {P A : List Pt} {R : List Int} {c : Int}
end
open Go.ChangeShapes Go.WideShapes Go.RowKit Go.Maps Go.Sort
theorem goneB_next {R : List Int} {k : Nat} {z : Int} (h : R[k]? = some z) (p : Pt) : goneB (R.take (k + 1)) p = (goneB (R.take k) p || (z == p.id)) := by
  unfold goneB; rw [take_next h, List.any_append]; simp
theorem keepL_push {P : List Pt} {i : Nat} {p : Pt} (h : P[i]? = some p) (R : List Int) : keepL (P.take (i + 1)) R = keepL (P.take i) R ++ (if goneB R p = true then [] else [p]) := by
  unfold keepL; rw [take_next h, List.filter_append]
  cases hg : goneB R p <;> simp [hg]
theorem OwnR.nilV2 {W : World} {base t sz : Nat} {v : Value} {l : List (List Value)} (h : OwnR W base t sz v l) : NilV v := fun c e => by
  rcases h.2.2 with ⟨h1, _⟩ | ⟨g, cap, cur, h1, _⟩
  · rw [h1] at e; injection e with _ _ e
    exact e.symm
  · rw [h1] at e; injection e with e
    cases e
theorem wide9r (p : Pt) : Wide 9 [p.row] := Wide.one rfl (Pt.row_one p)
set_option maxRecDepth 100000 in
set_option maxHeartbeats 3200000 in
theorem rmerge_any (pv av rv : Value) (P A : List Pt) (R : List Int) (w : World) (hp : PtsV w pv P) (ha : PtsV w av A) (ha0 : NilV av) (hr : IntsV w rv R) (hPl : P.length <= 1024) (hAl : A.length <= 1024) (hRl : R.length <= maxLen) :
    Calls Tryz.prog 63 #[pv, av, rv] w fun r w' => (∃ v e L, r = .returned (.tuple #[v, .int .i64 e]) /\ OwnP w' w.heap.size v L /\ MergeRes P A R e L) /\ Below w.heap.size w w' := by
  have HPV := hid hp; have HAV := hid ha; obtain ⟨pa, pc, rfl, hpd⟩ := hp; obtain ⟨aa, ac, rfl, had⟩ := ha; obtain ⟨ra, rc, rfl, hrd⟩ := hr; obtain ⟨n, hn⟩ : ∃ n, n = P.length := ⟨_, rfl⟩; obtain ⟨m, hm⟩ : ∃ m, m = A.length := ⟨_, rfl⟩; obtain ⟨q, hq⟩ : ∃ q, q = R.length := ⟨_, rfl⟩; rw [<- hn] at HPV hPl ⊢; rw [<- hm] at HAV hAl ha0 ⊢; rw [<- hq] at hRl ⊢; have HN := hid hn; have HM := hid hm; have HQ := hid hq; have HA0 := hid ha0; have HPD := hid hpd; have HAD := hid had; have HRD := hid hrd; have hq63 : q <= 9223372036854775807 := by unfold maxLen at hRl; omega
  clear hpd had hrd hn hm hq hRl ha0; obtain ⟨i0, hi, hz0, hz1, hz2⟩ := info_parts info36; have HI := hid hi; have HZ0 := hid hz0; have HZ1 := hid hz1; have HZ2 := hid hz2; clear hi hz0 hz1 hz2; go_enter Tryz.func63, Tryz.ntmps63; go_wp2_with fail
  go_loopw [20] (fun iv W => ∃ i : Nat, i <= q /\ iv = .int .i64 (i : Int) /\ GoneOk P (R.take i) /\ Below w.heap.size w W) (fun iv _ => q - (intOf iv).toNat)
  case atStart => exact ⟨0, by omega, rfl, by rw [List.take_zero]; exact GoneOk.nil, Below.refl _ _⟩
  case round =>
    obtain ⟨i, hi, rfl, hgo, hB⟩ := hrel; have HGO := hid hgo; have HB4 := hid hB; have hz4 := hB.size; clear hgo hB; by_cases hlt : i < q
    · have d1 : decide ((i : Int) < (q : Int)) = true := decide_eq_true (by omega); obtain ⟨z, hz⟩ : ∃ z, R[i]? = some z := ⟨_, List.getElem?_eq_getElem (by rw [<- HQ.out]; exact hlt)⟩; obtain ⟨b, off, rfl, hbw, hrows⟩ := HRD.out.resolve_left (fun h => by rw [h] at hz; simp at hz); have HRR := hid hrows; have HBW := hid hbw; have c0 : wr.cell? ⟨b, off + i, none⟩ = some (.int .i64 z) := by rw [HB4.out.cell hbw]; exact hrows i z hz
      have HZI := hid hz; clear hz hbw hrows; obtain ⟨x, hx⟩ : ∃ x, x = idxL P z := ⟨_, rfl⟩; have HIC := hid (show Calls Tryz.prog 87 #[.slice pa n pc, .int .i64 z] wr fun r w' => r = .returned (.int .i64 x) /\ Below wr.heap.size wr w' from hx ▸ rindex_any _ P z wr (HPV.out.still HB4.out) (by rw [<- HN.out]; unfold maxLen; omega)); have HX := hid hx; clear hx; go_wp2_with fail; refine HIC.out.mono ?_; rintro r w5 ⟨rfl, hb5⟩; have HB5 := hid (HB4.out.trans (hb5.mono hz4)); have hz5 := hb5.size; clear hb5 HIC c0; by_cases hx0 : x < 0
      · have d2 : decide (x < 0) = true := decide_eq_true hx0
        have HNG := hid (show ¬ GoneOk P R from fun h => by
          obtain ⟨p, h1, h2⟩ := h.1 z (List.mem_of_getElem? HZI.out)
          exact idxL_neg.1 (show idxL P z < 0 by rw [<- HX.out]; exact hx0) p h1 h2)
        have HR := hid (MergeRes.bad (A := A) (mergeErr_gone HNG.out) (by decide)); go_wp2_with fail; go_ret2; exact ⟨⟨_, _, [], rfl, OwnR.nil _ _ _ _, HR.out⟩, HB5.out⟩
      · have d2 : decide (x < 0) = false := decide_eq_false hx0
        have HEX := hid (show ∃ p ∈ P, p.id = z from by
          refine Classical.byContradiction (fun h => hx0 ?_); rw [HX.out]
          exact idxL_neg.2 (fun p hp e => h ⟨p, hp, e⟩))
        go_wp2_with fail
        go_loopw [9] (fun kv W => ∃ k : Nat, k <= i /\ kv = .int .i64 (k : Int) /\ (∀ y ∈ R.take k, y ≠ z) /\ Below w.heap.size w W) (fun kv _ => i - (intOf kv).toNat)
        case atStart => exact ⟨0, by omega, rfl, fun y hy => by simp at hy, HB5.out⟩
        case round =>
          obtain ⟨k, hk, rfl, hne, hB⟩ := hrel; have HNE := hid hne; have HBK := hid hB; have hzk := hB.size; clear hne hB; by_cases hlk : k < i
          · have d3 : decide ((k : Int) < (i : Int)) = true := decide_eq_true (by omega); obtain ⟨y, hy⟩ : ∃ y, R[k]? = some y := ⟨_, List.getElem?_eq_getElem (by rw [<- HQ.out]; omega)⟩; have e0 := fun d os => cell_regrown (show wr.cell? ⟨b, off + i, none⟩ = some (.int .i64 z) by rw [HBK.out.cell HBW.out]; exact HRR.out i z HZI.out) d os
            have e1 := fun d os => cell_regrown (show wr.cell? ⟨b, off + k, none⟩ = some (.int .i64 y) by rw [HBK.out.cell HBW.out]; exact HRR.out k y hy) d os
            have HYI := hid hy; clear hy; have hiq : i < q := hlt; have hkq : k < q := by omega
            by_cases hyz : y = z
            · have HNG := hid (show ¬ GoneOk P R from fun h => pw_not hlk HYI.out HZI.out (fun g => g hyz) h.2); have HR := hid (MergeRes.bad (A := A) (mergeErr_gone HNG.out) (by decide)); have d4 : (y == z) = true := by simp [hyz]
              clear hyz; go_wp2_with fail; refine wp_region_quiet_below (by kernel_rfl) (by kernel_rfl) ?_
              repeat (first | go_big_quiet_step (fail) | quiet_step (fail))
              refine wpQuiet_nil ?_; intro _ hw'; obtain ⟨⟨dqV, osV⟩, hw2⟩ := hw'; subst hw2; have HQV := hid (below_regrown wr dqV osV); generalize Sort.grow (redrawn wr dqV) osV = V at HQV ⊢; have hsV := HQV.out.size; have HBV := hid (HBK.out.trans (HQV.out.mono hzk)); clear e0 e1; go_wp2_with fail; go_ret2; exact ⟨⟨_, _, [], rfl, OwnR.nil _ _ _ _, HR.out⟩, HBV.out⟩
            · have d4 : (y == z) = false := by simp [hyz]
              have HYN := hid (show ∀ u ∈ R.take (k + 1), u ≠ z by
                rw [take_next HYI.out]; intro u hu
                rcases List.mem_append.1 hu with g | g
                · exact HNE.out u g
                · obtain rfl := List.mem_singleton.1 g; exact hyz)
              clear hyz; go_wp2_with fail; refine wp_region_quiet_below (by kernel_rfl) (by kernel_rfl) ?_
              repeat (first | go_big_quiet_step (fail) | quiet_step (fail))
              refine wpQuiet_nil ?_; intro _ hw'; obtain ⟨⟨dqV, osV⟩, hw2⟩ := hw'; subst hw2; have HQV := hid (below_regrown wr dqV osV); generalize Sort.grow (redrawn wr dqV) osV = V at HQV ⊢; have hsV := HQV.out.size; have HBV := hid (HBK.out.trans (HQV.out.mono hzk)); clear e0 e1; go_wp2_with fail; exact ⟨⟨k + 1, by omega, by go_num, HYN.out, HBV.out⟩, by simp [intOf]; omega⟩
          · obtain rfl : k = i := by omega
            have d3 : decide ((k : Int) < (k : Int)) = false := by simp
            have HNX := hid (HGO.out.next HZI.out (by
              obtain ⟨p, h1, h2⟩ := HEX.out
              exact ⟨p, keepL_mem.2 ⟨h1, fun hm => HNE.out _ hm h2⟩, h2⟩))
            go_wp2_with fail; exact ⟨⟨k + 1, by omega, by go_num, HNX.out, HBK.out⟩, by simp [intOf]; omega⟩
    · obtain rfl : i = q := by omega
      have d1 : decide ((i : Int) < (i : Int)) = false := by simp
      have HGK := hid (show GoneOk P R by have := HGO.out; rwa [HQ.out, List.take_length] at this); clear HGO; go_wp2_with fail
      go_loopw [10, 47] (fun ov jv W => ∃ (j : Nat) (o : Value), o = ov /\ j <= n /\ jv = .int .i64 (j : Int) /\ OwnP W w.heap.size ov (keepL (P.take j) R) /\ Below w.heap.size w W) (fun _ jv _ => n - (intOf jv).toNat)
      case atStart => exact ⟨0, _, rfl, by omega, rfl, OwnR.nil _ _ _ _, HB4.out⟩
      clear HB4 hz4
      case round =>
        obtain ⟨j, ov, rfl, hj, rfl, hov, hB⟩ := hrel; have HOV := hid hov; have HB4 := hid hB; have hz4 := hB.size; clear hov hB
        have HKL := hid (show (keepL (P.take j) R).length <= 1024 by
          refine Nat.le_trans (List.length_filter_le _ _) ?_; rw [List.length_take, <- HN.out]
          omega)
        by_cases hlk : j < n
        · have d2 : decide ((j : Int) < (n : Int)) = true := decide_eq_true (by omega); obtain ⟨p, hp⟩ : ∃ p, P[j]? = some p := ⟨_, List.getElem?_eq_getElem (by rw [<- HN.out]; exact hlk)⟩; obtain ⟨b, off, hva, hbw, hrows⟩ := HPD.out.resolve_left (fun h => by rw [h] at hp; simp at hp); have hcs : ∀ y, y < 9 -> wr.cell? ⟨b, off + j * 9 + y, none⟩ = some (.int .i64 (p.f y)) := fun y hy => by
            rw [HB4.out.cell hbw, hrows j p.row (by rw [List.getElem?_map, hp]; rfl) y hy, Pt.row_at p y hy]
          have HPI := hid hp; clear hp hrows hbw; subst hva; obtain ⟨p0, p1, p2, p3, p4, p5, p6, p7, p8⟩ := p; have a0 : wr.cell? ⟨b, off + j * 9, none⟩ = some (.int .i64 p0) := hcs 0 (by decide); have a1 : wr.cell? ⟨b, off + j * 9 + 1, none⟩ = some (.int .i64 p1) := hcs 1 (by decide); have a2 : wr.cell? ⟨b, off + j * 9 + 2, none⟩ = some (.int .i64 p2) := hcs 2 (by decide); have a3 : wr.cell? ⟨b, off + j * 9 + 3, none⟩ = some (.int .i64 p3) := hcs 3 (by decide); have a4 : wr.cell? ⟨b, off + j * 9 + 4, none⟩ = some (.int .i64 p4) := hcs 4 (by decide); have a5 : wr.cell? ⟨b, off + j * 9 + 5, none⟩ = some (.int .i64 p5) := hcs 5 (by decide); have a6 : wr.cell? ⟨b, off + j * 9 + 6, none⟩ = some (.int .i64 p6) := hcs 6 (by decide); have a7 : wr.cell? ⟨b, off + j * 9 + 7, none⟩ = some (.int .i64 p7) := hcs 7 (by decide); have a8 : wr.cell? ⟨b, off + j * 9 + 8, none⟩ = some (.int .i64 p8) := hcs 8 (by decide); clear hcs; go_upto_region 16 with fail; refine gen_world (fun W5 hW5 => ?_); have HP5 := hid (show W5.heap[wr.heap.size]? = some (.cells #[.int .i64 p0, .int .i64 p1, .int .i64 p2, .int .i64 p3, .int .i64 p4, .int .i64 p5, .int .i64 p6, .int .i64 p7, .int .i64 p8] 106) by rw [hW5]; exact heap_alloc_at _ _ _ rfl); have hb5 : Below wr.heap.size wr W5 := by rw [hW5]; exact (Below.refl _ _).alloc (Nat.le_refl _) _
          have HBX := hid (HB4.out.trans (hb5.mono hz4)); have HOX := hid (show OwnP W5 w.heap.size ov (keepL (P.take j) R) from OwnR.grow' HOV.out hb5); clear hW5 hb5 a0 a1 a2 a3 a4 a5 a6 a7 a8 HOV; obtain ⟨g, hg⟩ : ∃ g, g = wr.heap.size := ⟨_, rfl⟩; rw [<- hg] at HP5 ⊢; clear hg; go_wp2_with fail
          go_loopw [13, 53] (fun hv kv W => ∃ k : Nat, k <= i /\ kv = .int .i64 (k : Int) /\ hv = .bool (goneB (R.take k) ⟨p0, p1, p2, p3, p4, p5, p6, p7, p8⟩) /\ Below W5.heap.size W5 W) (fun _ kv _ => i - (intOf kv).toNat)
          case atStart => exact ⟨0, by omega, rfl, rfl, Below.refl _ _⟩
          case round =>
            obtain ⟨k, hk, rfl, rfl, hB⟩ := hrel; obtain ⟨hd, hhd⟩ : ∃ hd, hd = goneB (R.take k) ⟨p0, p1, p2, p3, p4, p5, p6, p7, p8⟩ := ⟨_, rfl⟩; rw [<- hhd]; have HHD := hid hhd; have HBK := hid hB; have hzk := hB.size; clear hhd hB; by_cases hli : k < i
            · have d3 : decide ((k : Int) < (i : Int)) = true := decide_eq_true (by omega); obtain ⟨z, hz⟩ : ∃ z, R[k]? = some z := ⟨_, List.getElem?_eq_getElem (by rw [<- HQ.out]; omega)⟩; obtain ⟨br, orr, rfl, hbw, hrows⟩ := HRD.out.resolve_left (fun h => by rw [h] at hz; simp at hz); have c0 : wr.cell? ⟨br, orr + k, none⟩ = some (.int .i64 z) := by rw [(HBX.out.trans (HBK.out.mono HBX.out.size)).cell hbw]; exact hrows k z hz
              have HGN := hid (goneB_next hz ⟨p0, p1, p2, p3, p4, p5, p6, p7, p8⟩); rw [<- HHD.out] at HGN; have HP7 := hid (heap_still HBK.out HP5.out); clear hz hbw hrows; have b0 : wr.cell? ⟨g, 0, none⟩ = some (.int .i64 p0) := (cell_row (j := 0) HP7.out).trans rfl
              cases hd
              · have HFE := hid (show goneB (R.take (k + 1)) ⟨p0, p1, p2, p3, p4, p5, p6, p7, p8⟩ = (z == p0) from HGN.out); go_wp2_with fail; exact ⟨⟨k + 1, by omega, by go_num, by rw [HFE.out], HBK.out⟩, by simp [intOf]; omega⟩
              · have HFE := hid (show goneB (R.take (k + 1)) ⟨p0, p1, p2, p3, p4, p5, p6, p7, p8⟩ = true from HGN.out); go_wp2_with fail; exact ⟨⟨k + 1, by omega, by go_num, by rw [HFE.out], HBK.out⟩, by simp [intOf]; omega⟩
            · obtain rfl : k = i := by omega
              have d3 : decide ((k : Int) < (k : Int)) = false := by simp
              have HALL := hid (show R.take k = R by rw [HQ.out, List.take_length]); rw [HALL.out] at HHD; have HP7 := hid (heap_still HBK.out HP5.out); have HB7 := hid (HBX.out.trans (HBK.out.mono HBX.out.size)); have HO7 := hid (show OwnP wr w.heap.size ov (keepL (P.take j) R) from OwnR.grow' HOX.out HBK.out); have HPU := hid (keepL_push HPI.out R); clear HOX HBX
              cases hd
              · have HNX := hid (show keepL (P.take (j + 1)) R = keepL (P.take j) R ++ [⟨p0, p1, p2, p3, p4, p5, p6, p7, p8⟩] by rw [HPU.out, <- HHD.out]; rfl); have b0 : wr.cell? ⟨g, 0, none⟩ = some (.int .i64 p0) := (cell_row (j := 0) HP7.out).trans rfl; have b1 : wr.cell? ⟨g, 1, none⟩ = some (.int .i64 p1) := (cell_row (j := 1) HP7.out).trans rfl; have b2 : wr.cell? ⟨g, 2, none⟩ = some (.int .i64 p2) := (cell_row (j := 2) HP7.out).trans rfl; have b3 : wr.cell? ⟨g, 3, none⟩ = some (.int .i64 p3) := (cell_row (j := 3) HP7.out).trans rfl; have b4 : wr.cell? ⟨g, 4, none⟩ = some (.int .i64 p4) := (cell_row (j := 4) HP7.out).trans rfl; have b5 : wr.cell? ⟨g, 5, none⟩ = some (.int .i64 p5) := (cell_row (j := 5) HP7.out).trans rfl; have b6 : wr.cell? ⟨g, 6, none⟩ = some (.int .i64 p6) := (cell_row (j := 6) HP7.out).trans rfl; have b7 : wr.cell? ⟨g, 7, none⟩ = some (.int .i64 p7) := (cell_row (j := 7) HP7.out).trans rfl; have b8 : wr.cell? ⟨g, 8, none⟩ = some (.int .i64 p8) := (cell_row (j := 8) HP7.out).trans rfl; have HRK := hid (RowsAt.one (heap_alloc_at wr _ _ rfl) : RowsAt (wr.alloc (.cells #[.int .i64 p0, .int .i64 p1, .int .i64 p2, .int .i64 p3, .int .i64 p4, .int .i64 p5, .int .i64 p6, .int .i64 p7, .int .i64 p8] 106)) wr.heap.size 0 9 [[.int .i64 p0, .int .i64 p1, .int .i64 p2, .int .i64 p3, .int .i64 p4, .int .i64 p5, .int .i64 p6, .int .i64 p7, .int .i64 p8]]); have HOA := hid (OwnR.grow' HO7.out ((Below.refl _ _).alloc (Nat.le_refl _) _) : OwnR (wr.alloc (.cells #[.int .i64 p0, .int .i64 p1, .int .i64 p2, .int .i64 p3, .int .i64 p4, .int .i64 p5, .int .i64 p6, .int .i64 p7, .int .i64 p8] 106)) w.heap.size 106 9 ov ((keepL (P.take j) R).map Pt.row)); have HBA2 := hid (HB7.out.alloc HB7.out.size _ : Below w.heap.size w (wr.alloc (.cells #[.int .i64 p0, .int .i64 p1, .int .i64 p2, .int .i64 p3, .int .i64 p4, .int .i64 p5, .int .i64 p6, .int .i64 p7, .int .i64 p8] 106))); have HL1 := hid (show ((keepL (P.take j) R).map Pt.row).length + 1 <= maxLen by rw [List.length_map]; have := HKL.out; unfold maxLen; omega); have HL2 := hid (show (((keepL (P.take j) R).map Pt.row).length + 1) * 72 <= 140737488355328 by rw [List.length_map]; have := HKL.out; omega)
                go_wp2_with (first
                  | (at_builtin
                     refine wpList_append_rows rfl (.tmp 67) (.tmp 69) 35 rfl w.heap.size 106 i0 _ 9 72 Tryz.underlying35 HI.out HZ0.out HZ1.out HZ2.out rfl (by decide) _ ((keepL (P.take j) R).map Pt.row) [[.int .i64 p0, .int .i64 p1, .int .i64 p2, .int .i64 p3, .int .i64 p4, .int .i64 p5, .int .i64 p6, .int .i64 p7, .int .i64 p8]] rfl HOA.out wr.heap.size 0 1 1 rfl rfl HRK.out (wide9r ⟨_, _, _, _, _, _, _, _, _⟩) HL1.out HL2.out HBA2.out.size ?_; intro v6 W6 hown6 hg6 z6; clear z6; have HO6 := hid (show OwnP W6 w.heap.size v6 (keepL (P.take (j + 1)) R) by unfold OwnP; rw [HNX.out, List.map_append]; exact hown6); have HB6 := hid (show Below w.heap.size w W6 from HBA2.out.grown hg6 HBA2.out.size (fun k hk => OwnR.ownBlock HOA.out k hk))
                     clear hown6 hg6))
                exact ⟨⟨j + 1, _, rfl, by omega, by go_num, HO6.out, HB6.out⟩, by simp [intOf]; omega⟩
              · have HNX := hid (show keepL (P.take (j + 1)) R = keepL (P.take j) R by rw [HPU.out, <- HHD.out]; exact List.append_nil _); go_wp2_with fail; exact ⟨⟨j + 1, _, rfl, by omega, by go_num, by rw [HNX.out]; exact HO7.out, HB7.out⟩, by simp [intOf]; omega⟩
        · obtain rfl : j = n := by omega
          have d2 : decide ((j : Int) < (j : Int)) = false := by simp
          have HPT := hid (show P.take j = P by rw [HN.out, List.take_length]); rw [HPT.out] at HOV HKL; obtain ⟨W6, rfl⟩ : ∃ W6, W6 = wr := ⟨_, rfl⟩; go_wp2_with fail
          go_loopw [74] (fun kv W => ∃ k : Nat, k <= m /\ kv = .int .i64 (k : Int) /\ (∀ a ∈ A.take k, ∀ p ∈ keepL P R, p.id ≠ a.id) /\ Below W6.heap.size W6 W) (fun kv _ => m - (intOf kv).toNat)
          case atStart => exact ⟨0, by omega, rfl, fun a ha => by simp at ha, Below.refl _ _⟩
          case round =>
            obtain ⟨k, hk, rfl, hth, hB⟩ := hrel; have HTH := hid hth; have HBK := hid hB; have hzk := hB.size; have HB8 := hid (HB4.out.trans (hB.mono hz4)); clear hth hB; by_cases hlk : k < m
            · have d3 : decide ((k : Int) < (m : Int)) = true := decide_eq_true (by omega); obtain ⟨p, hp⟩ : ∃ p, A[k]? = some p := ⟨_, List.getElem?_eq_getElem (by rw [<- HM.out]; exact hlk)⟩; obtain ⟨b, off, hva, hbw, hrows⟩ := HAD.out.resolve_left (fun h => by rw [h] at hp; simp at hp); have hcs : ∀ y, y < 9 -> wr.cell? ⟨b, off + k * 9 + y, none⟩ = some (.int .i64 (p.f y)) := fun y hy => by
                rw [HB8.out.cell hbw, hrows k p.row (by rw [List.getElem?_map, hp]; rfl) y hy, Pt.row_at p y hy]
              have HPI := hid hp; clear hp hrows hbw; subst hva; obtain ⟨p0, p1, p2, p3, p4, p5, p6, p7, p8⟩ := p; have a0 : wr.cell? ⟨b, off + k * 9, none⟩ = some (.int .i64 p0) := hcs 0 (by decide); have a1 : wr.cell? ⟨b, off + k * 9 + 1, none⟩ = some (.int .i64 p1) := hcs 1 (by decide); have a2 : wr.cell? ⟨b, off + k * 9 + 2, none⟩ = some (.int .i64 p2) := hcs 2 (by decide); have a3 : wr.cell? ⟨b, off + k * 9 + 3, none⟩ = some (.int .i64 p3) := hcs 3 (by decide); have a4 : wr.cell? ⟨b, off + k * 9 + 4, none⟩ = some (.int .i64 p4) := hcs 4 (by decide); have a5 : wr.cell? ⟨b, off + k * 9 + 5, none⟩ = some (.int .i64 p5) := hcs 5 (by decide); have a6 : wr.cell? ⟨b, off + k * 9 + 6, none⟩ = some (.int .i64 p6) := hcs 6 (by decide); have a7 : wr.cell? ⟨b, off + k * 9 + 7, none⟩ = some (.int .i64 p7) := hcs 7 (by decide); have a8 : wr.cell? ⟨b, off + k * 9 + 8, none⟩ = some (.int .i64 p8) := hcs 8 (by decide); clear hcs; go_upto_region 28 with fail; refine gen_world (fun W7 hW7 => ?_); have HP7 := hid (show W7.heap[wr.heap.size]? = some (.cells #[.int .i64 p0, .int .i64 p1, .int .i64 p2, .int .i64 p3, .int .i64 p4, .int .i64 p5, .int .i64 p6, .int .i64 p7, .int .i64 p8] 106) by rw [hW7]; exact heap_alloc_at _ _ _ rfl); have hb7 : Below wr.heap.size wr W7 := by rw [hW7]; exact (Below.refl _ _).alloc (Nat.le_refl _) _
              have HB7 := hid (HBK.out.trans (hb7.mono hzk)); clear hW7 hb7 a0 a1 a2 a3 a4 a5 a6 a7 a8; obtain ⟨g, hg⟩ : ∃ g, g = wr.heap.size := ⟨_, rfl⟩; rw [<- hg] at HP7 ⊢; clear hg; have c0 : W7.cell? ⟨g, 0, none⟩ = some (.int .i64 p0) := (cell_row (j := 0) HP7.out).trans rfl; obtain ⟨x, hx⟩ : ∃ x, x = idxL (keepL P R) p0 := ⟨_, rfl⟩; have HIC := hid (show Calls Tryz.prog 87 #[ov, .int .i64 p0] W7 fun r w' => r = .returned (.int .i64 x) /\ Below W7.heap.size W7 w' from hx ▸ rindex_any _ (keepL P R) p0 W7 (OwnP.ptsV (OwnR.grow' HOV.out HB7.out)) (by have := HKL.out; unfold maxLen; omega)); have HX := hid hx; clear hx; go_wp2_with fail; refine HIC.out.mono ?_; rintro r w9 ⟨rfl, hb9⟩; have HB9 := hid (HB7.out.trans (hb9.mono HB7.out.size)); clear hb9 HIC c0; by_cases hx0 : 0 <= x
              · have d4 : decide (0 <= x) = true := decide_eq_true hx0
                have HNT := hid (show ¬ ThereOk P A R from fun h => by
                  have h1 : idxL (keepL P R) p0 < 0 := idxL_neg.2 (fun u hu e => h _ (List.mem_of_getElem? HPI.out) u hu e); rw [<- HX.out] at h1
                  omega)
                have HR := hid (MergeRes.bad (mergeErr_there HGK.out HNT.out) (by decide)); go_wp2_with fail; go_ret2; exact ⟨⟨_, _, [], rfl, OwnR.nil _ _ _ _, HR.out⟩, HB4.out.trans (HB9.out.mono hz4)⟩
              · have d4 : decide (0 <= x) = false := decide_eq_false hx0
                have HTN := hid (show ∀ a ∈ A.take (k + 1), ∀ u ∈ keepL P R, u.id ≠ a.id by
                  have h1 := idxL_neg.1 (show idxL (keepL P R) p0 < 0 by rw [<- HX.out]; omega); rw [take_next HPI.out]; intro a ha u hu
                  rcases List.mem_append.1 ha with g1 | g1
                  · exact HTH.out a g1 u hu
                  · obtain rfl := List.mem_singleton.1 g1
                    exact h1 u hu)
                go_wp2_with fail; exact ⟨⟨k + 1, by omega, by go_num, HTN.out, HB9.out⟩, by simp [intOf]; omega⟩
            · obtain rfl : k = m := by omega
              have d3 : decide ((k : Int) < (k : Int)) = false := by simp
              have HTK := hid (show ThereOk P A R by have := HTH.out; rwa [HM.out, List.take_length] at this); have HO8 := hid (show OwnP wr w.heap.size ov (keepL P R) from OwnR.grow' HOV.out HBK.out); have hz8 := HB8.out.size
              have HX3 := hid (show ((A.map Pt.row = [] /\ (aa = none -> ac = 0)) ∨ ∃ b off, aa = some ⟨b, off, none⟩ /\ RowsAt wr b off 9 (A.map Pt.row)) by
                rcases HAD.out with h | ⟨b, off, h1, h2, h3⟩
                · refine Or.inl ⟨by rw [h]; rfl, fun e => HA0.out ac ?_⟩; have hn0 : k = 0 := by rw [HM.out, h]; rfl
                  rw [e, hn0]
                · exact Or.inr ⟨b, off, h1, h3.still HB8.out h2⟩)
              have HLN := hid (show (A.map Pt.row).length = k by rw [List.length_map]; exact HM.out.symm); have HL1 := hid (show ((keepL P R).map Pt.row).length + (A.map Pt.row).length <= maxLen by rw [HLN.out, List.length_map]; have := HKL.out; unfold maxLen; omega); have HL2 := hid (show (((keepL P R).map Pt.row).length + (A.map Pt.row).length) * 72 <= 140737488355328 by rw [HLN.out, List.length_map]; have := HKL.out; omega); have HWD := hid (wide_map (enc := Pt.row) (k := 9) (fun _ => rfl) Pt.row_one A); obtain ⟨s, hs⟩ : ∃ s, s = (keepL P R ++ A).length := ⟨_, rfl⟩; have HS := hid hs; have HSL := hid (show s = (keepL P R).length + A.length by rw [hs, List.length_append]); clear hs; by_cases hmany : s <= 1024
              · have d4 : decide ((1024 : Int) < (s : Int)) = false := decide_eq_false (by omega); have hmn : ¬ 1024 < s := by omega
                have HER := hid (mergeErr_ok HGK.out HTK.out (by rw [<- HSL.out]; exact hmany))
                go_wp2_with (first
                  | (at_builtin
                     refine wpList_append_rowsV rfl (.tmp 84) (.tmp 85) 35 rfl w.heap.size 106 i0 _ 9 72 Tryz.underlying35 HI.out HZ0.out HZ1.out HZ2.out rfl (by decide) _ ((keepL P R).map Pt.row) (A.map Pt.row) rfl HO8.out aa k ac HLN.out.symm rfl HX3.out HWD.out HL1.out HL2.out hz8 ?_; intro v6 W9 hown6 hg6 z6; clear z6; have HO6 := hid (show OwnP W9 w.heap.size v6 (keepL P R ++ A) by unfold OwnP; rw [List.map_append]; exact hown6); have HB6 := hid (show Below w.heap.size w W9 from HB8.out.grown hg6 hz8 (fun k hk => OwnR.ownBlock HO8.out k hk)); clear hown6 hg6; obtain ⟨ma, mcap, hmv⟩ := OwnP.slice HO6.out; rw [<- HS.out] at hmv
                     subst hmv))
                refine (rsorted_any _ (keepL P R ++ A) W9 (OwnP.ptsV HO6.out) (OwnR.nilV2 HO6.out) (by rw [<- HS.out]; omega)).mono ?_; rintro r w11 ⟨⟨u, rfl, L, hown, hperm, hasc⟩, hb11⟩; have HO11 := hid (show OwnP w11 w.heap.size u L from OwnR.mono hown HB6.out.size); have HB11 := hid (HB6.out.trans (hb11.mono HB6.out.size)); have HR := hid (MergeRes.ok HER.out (hperm.trans List.perm_append_comm) hasc); clear hperm hasc hown hb11; go_wp2_with fail; go_ret2; exact ⟨⟨_, _, L, rfl, HO11.out, HR.out⟩, HB11.out⟩
              · have d4 : decide ((1024 : Int) < (s : Int)) = true := decide_eq_true (by omega); have hmn : 1024 < s := by omega
                have HR := hid (MergeRes.bad (mergeErr_many HGK.out HTK.out (by rw [<- HSL.out]; exact hmany)) (by decide))
                go_wp2_with (first
                  | (at_builtin
                     refine wpList_append_rowsV rfl (.tmp 84) (.tmp 85) 35 rfl w.heap.size 106 i0 _ 9 72 Tryz.underlying35 HI.out HZ0.out HZ1.out HZ2.out rfl (by decide) _ ((keepL P R).map Pt.row) (A.map Pt.row) rfl HO8.out aa k ac HLN.out.symm rfl HX3.out HWD.out HL1.out HL2.out hz8 ?_; intro v6 W9 hown6 hg6 z6; clear z6; have HO6 := hid (show OwnP W9 w.heap.size v6 (keepL P R ++ A) by unfold OwnP; rw [List.map_append]; exact hown6); have HB6 := hid (show Below w.heap.size w W9 from HB8.out.grown hg6 hz8 (fun k hk => OwnR.ownBlock HO8.out k hk)); clear hown6 hg6; obtain ⟨ma, mcap, hmv⟩ := OwnP.slice HO6.out; rw [<- HS.out] at hmv
                     subst hmv))
                go_ret2; exact ⟨⟨_, _, [], rfl, OwnR.nil _ _ _ _, HR.out⟩, HB6.out⟩
open Go.ChangeShapes Go.WideShapes Go.ChangeAt Go.RowKit Go.Maps Go.Sort
section
variable {H : Type} {enc : TypeId × Value -> H} {w : World} {base : Nat} {spare : Nat -> Bool} {held : Bool}
set_option maxRecDepth 100000 in
theorem ints_cell {fuel : Nat} {v : Value} {x : DataW H × List MemPlace} (hx : DataW.trod enc Tryz.prog w base spare held fuel 30 [v] = some x) : ∃ l : List Int, IntsV w v l /\ l.length <= maxLen /\ ∀ z ∈ l, (Lit.int .i64 z).wf = true := by
  obtain ⟨a, len, cap, rfl, hl, hn, hr⟩ := open_cell_rows Tryz.underlying30 lawFlat3 lawSize3 (by decide) hx; by_cases h0 : len = 0
  · subst h0; exact ⟨[], ⟨a, cap, rfl, Or.inl rfl⟩, by simp, fun z hz => by simp at hz⟩
  · obtain ⟨b, off, rfl, hb, hrows⟩ := hr (by omega); obtain ⟨S, h1, h2⟩ := rows_ints hrows; subst h1
    exact ⟨S, ⟨_, cap, rfl, Or.inr ⟨b, off, rfl, hb, fun i z hi => (h2 i z hi).1⟩⟩, hl, fun z hz => by
      obtain ⟨i, hi, rfl⟩ := List.mem_iff_getElem.1 hz
      exact (h2 i _ (List.getElem?_eq_getElem hi)).2⟩
theorem cells22u : Tryz.prog.cellsOf 35 = 1 := by kernel_rfl
theorem cells30 : Tryz.prog.cellsOf 30 = 1 := by kernel_rfl
end
end Go.Proofs.YtcclpdfmmdonpaaGreat
