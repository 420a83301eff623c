/- The plant's reader of numbers and of points. (Printed by wip/gen_unp.py.) -/
import Derived.Test.YtpablkmdpoombaaDelM
import Derived.Test.YtpablkmdpoombaaAidB
namespace Go.Proofs.Ytpablkmdpoombaa
open Go.RowKit

set_option maxRecDepth 100000 in
theorem take_num (rb b : Nat) (s : St) (w : World) (h : RdAt w rb 91 b s) :
    Calls Try.prog 79 #[.pointer (some ⟨rb, 0, none⟩), .func (.func 80) #[] #[]] w fun r w' => r = .returned (.int .i64 (nextS false s).1) ∧ RdAt w' rb 91 b (nextS false s).2 ∧ Only rb w.heap.size w w' := by
  have HR0 := hid h
  obtain ⟨o, c, hr, hm, hc, hb, hne, hg, hbw⟩ := h
  have HCALL := hid (xRead_any b o s.m c s.g w (by omega) hg hb)
  have HRD := hid hr
  have hc0 : w.cell? ⟨rb, 0, none⟩ = some (.slice (some ⟨b, o, none⟩) s.m c) := by simp [World.cell?, hr]
  have hf0 : w.frozen? ⟨rb, 0, none⟩ = false := by simp [World.frozen?, hr]
  have hf1 : w.frozen? ⟨rb, 1, none⟩ = false := by simp [World.frozen?, hr]
  cases hsb : s.bad
  · have hc1 : w.cell? ⟨rb, 1, none⟩ = some (.bool false) := by simp [World.cell?, hr, hsb]
    by_cases he : (readV s.g s.m).2.2 = 0
    · have hsz := readV_size s.g s.m he
      obtain ⟨k, hk⟩ : ∃ k : Nat, (readV s.g s.m).2.1 = k := ⟨(readV s.g s.m).2.1.toNat, by omega⟩
      have hkm : k ≤ s.m := by omega
      have HN := hid (nextS_good (sg := false) he hsb hk)
      have HI := hid (show int3 (readV s.g s.m) = .tuple #[.int .i64 ((readV s.g s.m)).1, .int .i64 k, .int .i64 0] by first | (rw [int3_eq, (signV_size _).1, (signV_size _).2 he, he, hk]) | (rw [int3_eq, he, hk]))
      have HB := hid hb
      have HG := hid hg
      have HBD := hid hsb
      clear hb hg he hk hsz hr hsb HR0
      by_cases hck : k < c
      · go_enter Try.func79, Try.ntmps79
        go_wp2_with fail
        refine HCALL.out.mono ?_
        rintro r w1 ⟨rfl, rfl⟩
        rw [HI.out]
        go_wp2_with fail
        all_goals first | (exfalso; omega) | skip
        go_ret
        rw [HN.out]
        have hol := only_setCell (j := 0) (Only.refl rb w.heap.size w) (.slice (some ⟨b, o + k, none⟩) (s.m - k) (c - k))
        exact ⟨rfl, rd_after hol hm hc HB.out hne HG.out hbw hkm (Or.inl rfl) (heap_setCell HRD.out _), hol⟩
      · have hcm : c = s.m := by omega
        have hkm2 : k = s.m := by omega
        subst hcm hkm2
        clear hck
        go_enter Try.func79, Try.ntmps79
        go_wp2_with fail
        refine HCALL.out.mono ?_
        rintro r w1 ⟨rfl, rfl⟩
        rw [HI.out]
        go_wp2_with fail
        go_ret
        rw [HN.out]
        have hol := only_setCell (j := 0) (Only.refl rb w.heap.size w) (.slice (some ⟨b, o, none⟩) 0 0)
        exact ⟨rfl, rd_after hol hm hc HB.out hne HG.out hbw hkm (Or.inr (Nat.sub_self _)) (by rw [Nat.sub_self]; exact heap_setCell HRD.out _), hol⟩
    · have HN := hid (nextS_bad (sg := false) (s := s) (fun x => he x.1))
      have HI := hid (show int3 (readV s.g s.m) = .tuple #[.int .i64 ((readV s.g s.m)).1, .int .i64 ((readV s.g s.m)).2.1, .int .i64 ((readV s.g s.m)).2.2] from rfl)
      have hse : ((readV s.g s.m)).2.2 ≠ 0 := by first | exact he | (rw [(signV_size _).1]; exact he)
      have hb2 : (((readV s.g s.m)).2.2 == 0) = false := beq_false_of_ne hse
      have HB := hid hb
      have HG := hid hg
      clear hb hg he hsb hse HR0 hr
      go_enter Try.func79, Try.ntmps79
      go_wp2_with fail
      refine HCALL.out.mono ?_
      rintro r w1 ⟨rfl, rfl⟩
      rw [HI.out]
      generalize (readV s.g s.m) = V at *
      obtain ⟨V1, V2, V3⟩ := V
      simp only at hb2
      go_wp2_with fail
      go_ret
      rw [HN.out]
      have hol := only_setCell (j := 1) (Only.refl rb w.heap.size w) (.bool true)
      exact ⟨rfl, ⟨o, c, heap_setCell HRD.out _, hm, hc, bytes_only HB.out hol (fun h => hne h.symm) hbw, hne, HG.out, Nat.lt_of_lt_of_le hbw hol.size⟩, hol⟩
  · have hc1 : w.cell? ⟨rb, 1, none⟩ = some (.bool true) := by simp [World.cell?, hr, hsb]
    have HN := hid (show nextS false s = (0, s) by
      rw [nextS_bad (fun x => by rw [hsb] at x; exact Bool.noConfusion x.2)]
      obtain ⟨g, m, bd⟩ := s
      simp only at hsb
      subst hsb
      rfl)
    clear hb hg hsb hr
    go_enter Try.func79, Try.ntmps79
    go_wp2_with fail
    go_ret
    rw [HN.out]
    exact ⟨rfl, HR0.out, Only.refl _ _ _⟩
set_option maxRecDepth 100000 in
theorem unum_at {rb b : Nat} {s s' : St} {v : Int} (w : World) (hn : nextS false s = (v, s')) (h : RdAt w rb 91 b s) :
    Calls Try.prog 44 #[.pointer (some ⟨rb, 0, none⟩)] w fun r w' => r = .returned (.int .i64 v) ∧ RdAt w' rb 91 b s' ∧ Only rb w.heap.size w w' := by
  have HT := hid (take_num rb b s w h)
  rw [hn] at HT
  clear hn h
  go_enter Try.func44, Try.ntmps44
  go_wp2_with fail
  refine HT.out.mono ?_
  rintro r w1 ⟨rfl, hrd, hol⟩
  have HA := hid hrd
  have HO := hid hol
  clear hrd hol
  go_wp2_with fail
  go_ret
  exact ⟨rfl, HA.out, HO.out⟩
set_option maxRecDepth 100000 in
theorem take_sig (rb b : Nat) (s : St) (w : World) (h : RdAt w rb 91 b s) :
    Calls Try.prog 79 #[.pointer (some ⟨rb, 0, none⟩), .func (.func 120) #[] #[]] w fun r w' => r = .returned (.int .i64 (nextS true s).1) ∧ RdAt w' rb 91 b (nextS true s).2 ∧ Only rb w.heap.size w w' := by
  have HR0 := hid h
  obtain ⟨o, c, hr, hm, hc, hb, hne, hg, hbw⟩ := h
  have HCALL := hid (xSigned_any b o s.m c s.g w (by omega) hg hb)
  have HRD := hid hr
  have hc0 : w.cell? ⟨rb, 0, none⟩ = some (.slice (some ⟨b, o, none⟩) s.m c) := by simp [World.cell?, hr]
  have hf0 : w.frozen? ⟨rb, 0, none⟩ = false := by simp [World.frozen?, hr]
  have hf1 : w.frozen? ⟨rb, 1, none⟩ = false := by simp [World.frozen?, hr]
  cases hsb : s.bad
  · have hc1 : w.cell? ⟨rb, 1, none⟩ = some (.bool false) := by simp [World.cell?, hr, hsb]
    by_cases he : (readV s.g s.m).2.2 = 0
    · have hsz := readV_size s.g s.m he
      obtain ⟨k, hk⟩ : ∃ k : Nat, (readV s.g s.m).2.1 = k := ⟨(readV s.g s.m).2.1.toNat, by omega⟩
      have hkm : k ≤ s.m := by omega
      have HN := hid (nextS_good (sg := true) he hsb hk)
      have HI := hid (show int3 (signV (readV s.g s.m)) = .tuple #[.int .i64 ((signV (readV s.g s.m))).1, .int .i64 k, .int .i64 0] by first | (rw [int3_eq, (signV_size _).1, (signV_size _).2 he, he, hk]) | (rw [int3_eq, he, hk]))
      have HB := hid hb
      have HG := hid hg
      have HBD := hid hsb
      clear hb hg he hk hsz hr hsb HR0
      by_cases hck : k < c
      · go_enter Try.func79, Try.ntmps79
        go_wp2_with fail
        refine HCALL.out.mono ?_
        rintro r w1 ⟨rfl, rfl⟩
        rw [HI.out]
        go_wp2_with fail
        all_goals first | (exfalso; omega) | skip
        go_ret
        rw [HN.out]
        have hol := only_setCell (j := 0) (Only.refl rb w.heap.size w) (.slice (some ⟨b, o + k, none⟩) (s.m - k) (c - k))
        exact ⟨rfl, rd_after hol hm hc HB.out hne HG.out hbw hkm (Or.inl rfl) (heap_setCell HRD.out _), hol⟩
      · have hcm : c = s.m := by omega
        have hkm2 : k = s.m := by omega
        subst hcm hkm2
        clear hck
        go_enter Try.func79, Try.ntmps79
        go_wp2_with fail
        refine HCALL.out.mono ?_
        rintro r w1 ⟨rfl, rfl⟩
        rw [HI.out]
        go_wp2_with fail
        go_ret
        rw [HN.out]
        have hol := only_setCell (j := 0) (Only.refl rb w.heap.size w) (.slice (some ⟨b, o, none⟩) 0 0)
        exact ⟨rfl, rd_after hol hm hc HB.out hne HG.out hbw hkm (Or.inr (Nat.sub_self _)) (by rw [Nat.sub_self]; exact heap_setCell HRD.out _), hol⟩
    · have HN := hid (nextS_bad (sg := true) (s := s) (fun x => he x.1))
      have HI := hid (show int3 (signV (readV s.g s.m)) = .tuple #[.int .i64 ((signV (readV s.g s.m))).1, .int .i64 ((signV (readV s.g s.m))).2.1, .int .i64 ((signV (readV s.g s.m))).2.2] from rfl)
      have hse : ((signV (readV s.g s.m))).2.2 ≠ 0 := by first | exact he | (rw [(signV_size _).1]; exact he)
      have hb2 : (((signV (readV s.g s.m))).2.2 == 0) = false := beq_false_of_ne hse
      have HB := hid hb
      have HG := hid hg
      clear hb hg he hsb hse HR0 hr
      go_enter Try.func79, Try.ntmps79
      go_wp2_with fail
      refine HCALL.out.mono ?_
      rintro r w1 ⟨rfl, rfl⟩
      rw [HI.out]
      generalize (signV (readV s.g s.m)) = V at *
      obtain ⟨V1, V2, V3⟩ := V
      simp only at hb2
      go_wp2_with fail
      go_ret
      rw [HN.out]
      have hol := only_setCell (j := 1) (Only.refl rb w.heap.size w) (.bool true)
      exact ⟨rfl, ⟨o, c, heap_setCell HRD.out _, hm, hc, bytes_only HB.out hol (fun h => hne h.symm) hbw, hne, HG.out, Nat.lt_of_lt_of_le hbw hol.size⟩, hol⟩
  · have hc1 : w.cell? ⟨rb, 1, none⟩ = some (.bool true) := by simp [World.cell?, hr, hsb]
    have HN := hid (show nextS true s = (0, s) by
      rw [nextS_bad (fun x => by rw [hsb] at x; exact Bool.noConfusion x.2)]
      obtain ⟨g, m, bd⟩ := s
      simp only at hsb
      subst hsb
      rfl)
    clear hb hg hsb hr
    go_enter Try.func79, Try.ntmps79
    go_wp2_with fail
    go_ret
    rw [HN.out]
    exact ⟨rfl, HR0.out, Only.refl _ _ _⟩
set_option maxRecDepth 100000 in
theorem usig_at {rb b : Nat} {s s' : St} {v : Int} (w : World) (hn : nextS true s = (v, s')) (h : RdAt w rb 91 b s) :
    Calls Try.prog 81 #[.pointer (some ⟨rb, 0, none⟩)] w fun r w' => r = .returned (.int .i64 v) ∧ RdAt w' rb 91 b s' ∧ Only rb w.heap.size w w' := by
  have HT := hid (take_sig rb b s w h)
  rw [hn] at HT
  clear hn h
  go_enter Try.func81, Try.ntmps81
  go_wp2_with fail
  refine HT.out.mono ?_
  rintro r w1 ⟨rfl, hrd, hol⟩
  have HA := hid hrd
  have HO := hid hol
  clear hrd hol
  go_wp2_with fail
  go_ret
  exact ⟨rfl, HA.out, HO.out⟩
/-- a region that reads a number and stores the sum of a field and of it: what holds of it, in any order -/
structure AddR (w : World) (rb b pb B : Nat) (s s' : St) (ws : List Value) (C C' : Array Value) (L : Nat → Bool) (us : Nat → Value) (W : World) : Prop where
  only : Only rb B w W
  vals : ∀ j, j < 8 → L j = true → us j = ws.getD j undef
  rd : RdAt W rb 91 b (if L 4 = true then s' else s)
  row : W.heap[pb]? = some (.cells (if L 8 = true then C' else C) 78)
theorem AddR.pure {w W : World} {rb b pb B k : Nat} {s s' : St} {ws : List Value} {C C' : Array Value} {L : Nat → Bool} {us : Nat → Value} {v : Value} (h : AddR w rb b pb B s s' ws C C' L us W) (hk : k < 8) (h4 : k ≠ 4) (hv : v = ws.getD k undef) :
    AddR w rb b pb B s s' ws C C' (fun j => j == k || L j) (updF us k v) W := by
  refine ⟨h.only, fun j hj hl => ?_, ?_, ?_⟩
  · by_cases e : j = k
    · subst e; simp [updF, hv]
    · simp only [updF, if_neg e]
      exact h.vals j hj (by simpa [e] using hl)
  · have : ((4 == k) || L 4) = L 4 := by rw [show ((4 : Nat) == k) = false from beq_false_of_ne (fun e => h4 e.symm), Bool.false_or]
    rw [this]
    exact h.rd
  · have : ((8 == k) || L 8) = L 8 := by rw [show ((8 : Nat) == k) = false from beq_false_of_ne (by omega), Bool.false_or]
    rw [this]
    exact h.row
theorem AddR.call {w W W' : World} {rb b pb B : Nat} {s s' : St} {ws : List Value} {C C' : Array Value} {L : Nat → Bool} {us : Nat → Value} {v : Value} (h : AddR w rb b pb B s s' ws C C' L us W) (hpb : pb ≠ rb) (hB : B ≤ W.heap.size) (hv : v = ws.getD 4 undef)
    (hR : RdAt W' rb 91 b s') (ho : Only rb W.heap.size W W') : AddR w rb b pb B s s' ws C C' (fun j => j == 4 || L j) (updF us 4 v) W' := by
  refine ⟨h.only.trans ho hB, fun j hj hl => ?_, ?_, ?_⟩
  · by_cases e : j = 4
    · subst e; simp [updF, hv]
    · simp only [updF, if_neg e]
      exact h.vals j hj (by simpa [e] using hl)
  · simpa using hR
  · exact ho.heap hpb h.row
theorem AddR.store {w W : World} {rb b pb B : Nat} {s s' : St} {ws : List Value} {C C' : Array Value} {L : Nat → Bool} {us : Nat → Value} {u v : Value} (h : AddR w rb b pb B s s' ws C C' L us W) (h1 : rb ≠ pb) (h2 : b ≠ pb) (hB : B ≤ pb) (h8 : L 8 = false)
    (hC : C' = C.setIfInBounds 4 u) : AddR w rb b pb B s s' ws C C' (fun j => j == 8 || L j) (updF us 8 v) (W.setCell ⟨pb, 4, none⟩ u) := by
  refine ⟨h.only.set hB _, fun j hj hl => ?_, ?_, ?_⟩
  · have e : j ≠ 8 := by omega
    simp only [updF, if_neg e]
    exact h.vals j hj (by simpa [e] using hl)
  · exact h.rd.set h1 h2 _
  · have := h.row
    rw [h8] at this
    have h3 := heap_setCell (j := 4) this u
    simpa [hC] using h3
theorem size78 : (Try.prog.info? 78).map (·.size) = some 9 := by kernel_rfl
theorem Only.row {rb B g : Nat} {w W : World} {cs : Array Value} (h : Only rb B w W) (hg : B ≤ g) : Only rb B w (W.setRow g cs) :=
  ⟨h.os, h.tape, h.output, by have := h.size; simpa using this, fun k hk hne => by rw [setRow_other W g k _ (by omega)]; exact h.block k hk hne⟩
theorem RdAt.row {w : World} {rb ty b g : Nat} {s : St} {cs : Array Value} (h : RdAt w rb ty b s) (h1 : rb ≠ g) (h2 : b ≠ g) : RdAt (w.setRow g cs) rb ty b s :=
  h.same (by rw [setRow_other w g rb _ (by omega)]) (by rw [setRow_other w g b _ (by omega)]) (by simp)
set_option maxRecDepth 100000 in
set_option maxHeartbeats 12800000 in
theorem point_any (rb b : Nat) (l : Int) (s : St) (w : World) (h : RdAt w rb 91 b s) (hl : 0 ≤ l ∧ l ≤ 1152921504606846976) :
    Calls Try.prog 45 #[.pointer (some ⟨rb, 0, none⟩), .int .i64 l] w fun r w' => r = .returned (.agg (ptY l s).1.row.toArray) ∧ RdAt w' rb 91 b (ptY l s).2 ∧ Only rb w.heap.size w w' := by
  have hrb := h.rb_lt
  have hbl := h.b_lt
  have hne := h.apart
  rcases e0 : nextS false s with ⟨v0, t1⟩
  rcases e1 : nextS true t1 with ⟨v1, t2⟩
  rcases e2 : nextS true t2 with ⟨v2, t3⟩
  rcases e3 : nextS true t3 with ⟨v3, t4⟩
  rcases e4 : nextS false t4 with ⟨v4, t5⟩
  rcases e5 : nextS false t5 with ⟨v5, t6⟩
  rcases e6 : nextS false t6 with ⟨v6, t7⟩
  rcases e7 : nextS false t7 with ⟨v7, t8⟩
  rcases e8 : nextS false t8 with ⟨v8, t9⟩
  have HPT := hid (show ptY l s = (⟨l + v0, v1, v2, v3, v3 + v4, v5, v6, v7, v8⟩, if 1152921504606846976 < l + v0 ∨ 268435456 < v3 + v4 then t9.mark else t9) by
    unfold ptY
    simp only [e0, e1, e2, e3, e4, e5, e6, e7, e8])
  obtain ⟨s9, hs9⟩ : ∃ s9, s9 = (if 1152921504606846976 < l + v0 ∨ 268435456 < v3 + v4 then t9.mark else t9) := ⟨_, rfl⟩
  rw [HPT.out, ← hs9]
  have HS9 := hid hs9
  clear hs9
  have q0 := nextU_range s
  have q3 := nextI_range t3
  have q4 := nextU_range t4
  rw [e0] at q0
  rw [e3] at q3
  rw [e4] at q4
  simp only at q0 q3 q4
  have E0 := hid e0
  have E1 := hid e1
  have E2 := hid e2
  have E3 := hid e3
  have E4 := hid e4
  have E5 := hid e5
  have E6 := hid e6
  have E7 := hid e7
  have E8 := hid e8
  clear e0 e1 e2 e3 e4 e5 e6 e7 e8
  obtain ⟨qb, hqb⟩ : ∃ qb, qb = w.heap.size := ⟨_, rfl⟩
  have hqw : w.heap.size ≤ qb := by omega
  have G0 := hid (heap_alloc_at w (.cells #[.int .i64 0, .int .i64 0, .int .i64 0, .int .i64 0, .int .i64 0, .int .i64 0, .int .i64 0, .int .i64 0, .int .i64 0] 78) qb hqb)
  have R0 := hid (h.alloc (.cells #[.int .i64 0, .int .i64 0, .int .i64 0, .int .i64 0, .int .i64 0, .int .i64 0, .int .i64 0, .int .i64 0, .int .i64 0] 78))
  have O0 := hid ((Only.refl rb w.heap.size w).alloc (Nat.le_refl _) (.cells #[.int .i64 0, .int .i64 0, .int .i64 0, .int .i64 0, .int .i64 0, .int .i64 0, .int .i64 0, .int .i64 0, .int .i64 0] 78))
  have z0 : (w.alloc (.cells #[.int .i64 0, .int .i64 0, .int .i64 0, .int .i64 0, .int .i64 0, .int .i64 0, .int .i64 0, .int .i64 0, .int .i64 0] 78)).heap.size = qb + 1 := by simp [hqb]
  have HQB := hid hqb
  clear hqb h
  go_enter Try.func45, Try.ntmps45
  go_wp2_with fail
  rw [← HQB.out]
  generalize w.alloc (.cells #[.int .i64 0, .int .i64 0, .int .i64 0, .int .i64 0, .int .i64 0, .int .i64 0, .int .i64 0, .int .i64 0, .int .i64 0] 78) = W0 at *
  refine (unum_at _ E0.out R0.out).mono ?_
  rintro r w2 ⟨rfl, hrd, hol⟩
  have R3 := hid hrd
  have O3 := hid (O0.out.trans hol (by omega))
  have G3 := hid (show w2.heap[qb]? = some (.cells #[.int .i64 0, .int .i64 0, .int .i64 0, .int .i64 0, .int .i64 0, .int .i64 0, .int .i64 0, .int .i64 0, .int .i64 0] 78) from hol.heap (by omega) G0.out)
  have hz3 : qb < w2.heap.size := (Array.getElem?_eq_some_iff.1 G3.out).1
  clear hrd hol
  go_wp2_with fail
  obtain ⟨pb, hpb⟩ : ∃ pb, pb = w2.heap.size := ⟨_, rfl⟩
  rw [← hpb]
  have F3 := hid (heap_alloc_at w2 (.cells #[.int .i64 (l + v0), .int .i64 0, .int .i64 0, .int .i64 0, .int .i64 0, .int .i64 0, .int .i64 0, .int .i64 0, .int .i64 0] 78) pb hpb)
  have R4 := hid (R3.out.alloc (.cells #[.int .i64 (l + v0), .int .i64 0, .int .i64 0, .int .i64 0, .int .i64 0, .int .i64 0, .int .i64 0, .int .i64 0, .int .i64 0] 78))
  have O4 := hid (O3.out.alloc O3.out.size (.cells #[.int .i64 (l + v0), .int .i64 0, .int .i64 0, .int .i64 0, .int .i64 0, .int .i64 0, .int .i64 0, .int .i64 0, .int .i64 0] 78))
  have G4 := hid (show (w2.alloc (.cells #[.int .i64 (l + v0), .int .i64 0, .int .i64 0, .int .i64 0, .int .i64 0, .int .i64 0, .int .i64 0, .int .i64 0, .int .i64 0] 78)).heap[qb]? = some (.cells #[.int .i64 0, .int .i64 0, .int .i64 0, .int .i64 0, .int .i64 0, .int .i64 0, .int .i64 0, .int .i64 0, .int .i64 0] 78) from heap_alloc_past _ _ _ _ G3.out)
  have hz4 : (w2.alloc (.cells #[.int .i64 (l + v0), .int .i64 0, .int .i64 0, .int .i64 0, .int .i64 0, .int .i64 0, .int .i64 0, .int .i64 0, .int .i64 0] 78)).heap.size = pb + 1 := by simp [hpb]
  have hpw : w.heap.size ≤ pb := by have := O3.out.size; omega
  have hpq : qb < pb := by omega
  clear hpb R3 O3 G3
  generalize w2.alloc (.cells #[.int .i64 (l + v0), .int .i64 0, .int .i64 0, .int .i64 0, .int .i64 0, .int .i64 0, .int .i64 0, .int .i64 0, .int .i64 0] 78) = W3 at *
  refine (usig_at _ E1.out R4.out).mono ?_
  rintro r w5 ⟨rfl, hrd, hol⟩
  have R5 := hid hrd
  have F5 := hid (show w5.heap[pb]? = some (.cells #[.int .i64 (l + v0), .int .i64 0, .int .i64 0, .int .i64 0, .int .i64 0, .int .i64 0, .int .i64 0, .int .i64 0, .int .i64 0] 78) from hol.heap (by omega) F3.out)
  have G5 := hid (show w5.heap[qb]? = some (.cells #[.int .i64 0, .int .i64 0, .int .i64 0, .int .i64 0, .int .i64 0, .int .i64 0, .int .i64 0, .int .i64 0, .int .i64 0] 78) from hol.heap (by omega) G4.out)
  have O5 := hid (O4.out.trans hol (by first | omega | (simp; omega)))
  have hz5 : pb < w5.heap.size := (Array.getElem?_eq_some_iff.1 F5.out).1
  have c5 : w5.cell? ⟨pb, 1, none⟩ = some (.int .i64 0) := (cell_row (j := 1) F5.out).trans rfl
  have f5 : w5.frozen? ⟨pb, 1, none⟩ = false := by have hh := F5.out; simp [World.frozen?, hh]
  clear hrd hol
  go_wp2_with fail
  refine (usig_at _ E2.out (R5.out.set (by omega) (by omega) _)).mono ?_
  rintro r w6 ⟨rfl, hrd, hol⟩
  have R6 := hid hrd
  have F6 := hid (show w6.heap[pb]? = some (.cells #[.int .i64 (l + v0), .int .i64 v1, .int .i64 0, .int .i64 0, .int .i64 0, .int .i64 0, .int .i64 0, .int .i64 0, .int .i64 0] 78) from hol.heap (by omega) (heap_setCell F5.out _))
  have G6 := hid (show w6.heap[qb]? = some (.cells #[.int .i64 0, .int .i64 0, .int .i64 0, .int .i64 0, .int .i64 0, .int .i64 0, .int .i64 0, .int .i64 0, .int .i64 0] 78) from hol.heap (by omega) (heap_set_other G5.out (by omega) _))
  have O6 := hid ((O5.out.set (by omega) _).trans hol (by first | omega | (simp; omega)))
  have hz6 : pb < w6.heap.size := (Array.getElem?_eq_some_iff.1 F6.out).1
  have c6 : w6.cell? ⟨pb, 2, none⟩ = some (.int .i64 0) := (cell_row (j := 2) F6.out).trans rfl
  have f6 : w6.frozen? ⟨pb, 2, none⟩ = false := by have hh := F6.out; simp [World.frozen?, hh]
  clear hrd hol
  go_wp2_with fail
  refine (usig_at _ E3.out (R6.out.set (by omega) (by omega) _)).mono ?_
  rintro r w7 ⟨rfl, hrd, hol⟩
  have R7 := hid hrd
  have F7 := hid (show w7.heap[pb]? = some (.cells #[.int .i64 (l + v0), .int .i64 v1, .int .i64 v2, .int .i64 0, .int .i64 0, .int .i64 0, .int .i64 0, .int .i64 0, .int .i64 0] 78) from hol.heap (by omega) (heap_setCell F6.out _))
  have G7 := hid (show w7.heap[qb]? = some (.cells #[.int .i64 0, .int .i64 0, .int .i64 0, .int .i64 0, .int .i64 0, .int .i64 0, .int .i64 0, .int .i64 0, .int .i64 0] 78) from hol.heap (by omega) (heap_set_other G6.out (by omega) _))
  have O7 := hid ((O6.out.set (by omega) _).trans hol (by first | omega | (simp; omega)))
  have hz7 : pb < w7.heap.size := (Array.getElem?_eq_some_iff.1 F7.out).1
  have c7 : w7.cell? ⟨pb, 3, none⟩ = some (.int .i64 0) := (cell_row (j := 3) F7.out).trans rfl
  have f7 : w7.frozen? ⟨pb, 3, none⟩ = false := by have hh := F7.out; simp [World.frozen?, hh]
  clear hrd hol
  go_wp2_with fail
  have R20 := hid (show RdAt (w7.setCell ⟨pb, 3, none⟩ (.int .i64 v3)) rb 91 b t4 from (R7.out.set (by omega) (by omega) _))
  have F20 := hid (show (w7.setCell ⟨pb, 3, none⟩ (.int .i64 v3)).heap[pb]? = some (.cells #[.int .i64 (l + v0), .int .i64 v1, .int .i64 v2, .int .i64 v3, .int .i64 0, .int .i64 0, .int .i64 0, .int .i64 0, .int .i64 0] 78) from (heap_setCell F7.out _))
  have G20 := hid (show (w7.setCell ⟨pb, 3, none⟩ (.int .i64 v3)).heap[qb]? = some (.cells #[.int .i64 0, .int .i64 0, .int .i64 0, .int .i64 0, .int .i64 0, .int .i64 0, .int .i64 0, .int .i64 0, .int .i64 0] 78) from (heap_set_other G7.out (by omega) _))
  have O20 := hid (show Only rb w.heap.size w (w7.setCell ⟨pb, 3, none⟩ (.int .i64 v3)) from (O7.out.set (by omega) _))
  clear c5 f5 c6 f6 c7 f7
  refine gen_world (fun W20 hW20 => ?_)
  rw [← hW20] at R20 F20 O20 G20
  clear hW20
  have hz20 : pb < W20.heap.size := (Array.getElem?_eq_some_iff.1 F20.out).1
  refine gen_act (fun A0 hA => ?_)
  refine wp_region_by (by kernel_rfl) (by kernel_rfl) [some 21, some 22, some 23, some 24, some 25, some 26, some 27, some 28, none] rfl (by decide) (fun L us W => AddR w rb b pb w.heap.size t4 t5 [.pointer (some ⟨pb, 3, none⟩), .pointer (some ⟨pb, 3, none⟩), .int .i64 v3, .pointer (some ⟨rb, 0, none⟩), .int .i64 v4, .int .i64 (v3 + v4), .pointer (some ⟨pb, 3, none⟩), .pointer (some ⟨pb, 4, none⟩)] #[.int .i64 (l + v0), .int .i64 v1, .int .i64 v2, .int .i64 v3, .int .i64 0, .int .i64 0, .int .i64 0, .int .i64 0, .int .i64 0] #[.int .i64 (l + v0), .int .i64 v1, .int .i64 v2, .int .i64 v3, .int .i64 (v3 + v4), .int .i64 0, .int .i64 0, .int .i64 0, .int .i64 0] L us W ∧ W.heap[qb]? = some (.cells #[.int .i64 0, .int .i64 0, .int .i64 0, .int .i64 0, .int .i64 0, .int .i64 0, .int .i64 0, .int .i64 0, .int .i64 0] 78)) (selfF A0 _) (putF_self A0 _)
    ⟨⟨O20.out.trans (Only.of_below ((Below.refl W20.heap.size W20).drew)) (by have := O20.out.size; omega), fun _ _ h => (Bool.false_ne_true h).elim, R20.out.grow ((Below.refl _ _).drew), heap_still ((Below.refl _ _).drew) F20.out⟩, heap_still ((Below.refl _ _).drew) G20.out⟩ ?hsA ?hendA
  case hsA =>
    refine ⟨?_, ?_, ?_, ?_, ?_, ?_, ?_, ?_, ?_, trivial⟩
    · intro K L us W hK0 hL hd hRG
      obtain ⟨hR, hG⟩ := hRG
      clear hd
      have hK := hid (fun v A' h1 h2 => hK0 v A' W h1 ⟨hR.pure (by decide) (by decide) h2, hG⟩); clear hK0 hG
      simp only [putF]
      rw [hA]
      go_frame
      go_wp2_with fail
      exact hK.out _ _ (by rw [hA]; simp only [putF]; kernel_rfl) rfl
    · intro K L us W hK0 hL hd hRG
      obtain ⟨hR, hG⟩ := hRG
      simp [Region.binds] at hd
      have e0 : us 0 = .pointer (some ⟨pb, 3, none⟩) := hR.vals 0 (by decide) (by simp [hd])
      clear hd
      have hK := hid (fun v A' h1 h2 => hK0 v A' W h1 ⟨hR.pure (by decide) (by decide) h2, hG⟩); clear hK0 hG
      simp only [putF]
      rw [hA, e0]
      go_frame
      go_wp2_with fail
      exact hK.out _ _ (by rw [hA]; simp only [putF]; rw [e0]; kernel_rfl) rfl
    · intro K L us W hK0 hL hd hRG
      obtain ⟨hR, hG⟩ := hRG
      simp [Region.binds] at hd
      have e1 : us 1 = .pointer (some ⟨pb, 3, none⟩) := hR.vals 1 (by decide) (by simp [hd])
      clear hd
      have c0 : W.cell? ⟨pb, 3, none⟩ = some (.int .i64 v3) := (cell_row (j := 3) hR.row).trans (by split <;> rfl)
      have hK := hid (fun v A' h1 h2 => hK0 v A' W h1 ⟨hR.pure (by decide) (by decide) h2, hG⟩); clear hK0 hG
      simp only [putF]
      rw [hA, e1]
      go_frame
      go_wp2_with fail
      exact hK.out _ _ (by rw [hA]; simp only [putF]; rw [e1]; kernel_rfl) rfl
    · intro K L us W hK0 hL hd hRG
      obtain ⟨hR, hG⟩ := hRG
      clear hd
      have hK := hid (fun v A' h1 h2 => hK0 v A' W h1 ⟨hR.pure (by decide) (by decide) h2, hG⟩); clear hK0 hG
      simp only [putF]
      rw [hA]
      go_frame
      go_wp2_with fail
      exact hK.out _ _ (by rw [hA]; simp only [putF]; kernel_rfl) rfl
    · intro K L us W hK0 hL hd hRG
      obtain ⟨hR, hG⟩ := hRG
      simp [Region.binds] at hd
      have e3 : us 3 = .pointer (some ⟨rb, 0, none⟩) := hR.vals 3 (by decide) (by simp [hd])
      clear hd
      have HRD := hid (show RdAt W rb 91 b t4 by simpa [hL] using hR.rd)
      have hzW := hR.only.size
      have HG := hid hG
      have hK := hid (fun A' W' h1 h2 h3 => hK0 (.int .i64 v4) A' W' h1 ⟨hR.call (by omega) hzW rfl h2 h3, h3.heap (by omega) HG.out⟩); clear hK0 hG
      simp only [putF]
      rw [hA, e3]
      go_frame
      go_wp2_with fail
      refine (unum_at W E4.out HRD.out).mono ?_
      rintro r W' ⟨rfl, hrd, hol⟩
      have HRD2 := hid hrd
      have HOL2 := hid hol
      clear hrd hol
      go_wp2_with fail
      exact hK.out _ _ (by rw [hA]; simp only [putF]; rw [e3]; kernel_rfl) HRD2.out HOL2.out
    · intro K L us W hK0 hL hd hRG
      obtain ⟨hR, hG⟩ := hRG
      simp [Region.binds] at hd
      have e2 : us 2 = .int .i64 v3 := hR.vals 2 (by decide) (by simp [hd])
      have e4 : us 4 = .int .i64 v4 := hR.vals 4 (by decide) (by simp [hd])
      clear hd
      have hK := hid (fun v A' h1 h2 => hK0 v A' W h1 ⟨hR.pure (by decide) (by decide) h2, hG⟩); clear hK0 hG
      simp only [putF]
      rw [hA, e2, e4]
      go_frame
      go_wp2_with fail
      exact hK.out _ _ (by rw [hA]; simp only [putF]; rw [e2]; rw [e4]; kernel_rfl) rfl
    · intro K L us W hK0 hL hd hRG
      obtain ⟨hR, hG⟩ := hRG
      clear hd
      have hK := hid (fun v A' h1 h2 => hK0 v A' W h1 ⟨hR.pure (by decide) (by decide) h2, hG⟩); clear hK0 hG
      simp only [putF]
      rw [hA]
      go_frame
      go_wp2_with fail
      exact hK.out _ _ (by rw [hA]; simp only [putF]; kernel_rfl) rfl
    · intro K L us W hK0 hL hd hRG
      obtain ⟨hR, hG⟩ := hRG
      simp [Region.binds] at hd
      have e6 : us 6 = .pointer (some ⟨pb, 3, none⟩) := hR.vals 6 (by decide) (by simp [hd])
      clear hd
      have hK := hid (fun v A' h1 h2 => hK0 v A' W h1 ⟨hR.pure (by decide) (by decide) h2, hG⟩); clear hK0 hG
      simp only [putF]
      rw [hA, e6]
      go_frame
      go_wp2_with fail
      exact hK.out _ _ (by rw [hA]; simp only [putF]; rw [e6]; kernel_rfl) rfl
    · intro K L us W hK0 hL hd hRG
      obtain ⟨hR, hG⟩ := hRG
      simp [Region.binds] at hd
      have e5 : us 5 = .int .i64 (v3 + v4) := hR.vals 5 (by decide) (by simp [hd])
      have e7 : us 7 = .pointer (some ⟨pb, 4, none⟩) := hR.vals 7 (by decide) (by simp [hd])
      clear hd
      have hrw := hR.row
      rw [hL, if_neg Bool.false_ne_true] at hrw
      have c0 : W.cell? ⟨pb, 4, none⟩ = some (.int .i64 0) := (cell_row (j := 4) hrw).trans rfl
      have f0 : W.frozen? ⟨pb, 4, none⟩ = false := by simp [World.frozen?, hrw]
      have hK := hid (fun v A' h1 => hK0 v A' (W.setCell ⟨pb, 4, none⟩ (.int .i64 (v3 + v4))) h1 ⟨hR.store (by omega) (by omega) hpw hL rfl, heap_set_other hG (by omega) _⟩); clear hK0 hrw hG
      simp only [putF]
      rw [hA, e5, e7]
      go_frame
      go_wp2_with fail
      exact hK.out undef _ (by rw [hA]; simp only [putF]; rw [e5]; rw [e7]; kernel_rfl)
  case hendA =>
  intro L us W21 hL hRG
  obtain ⟨hR, hG⟩ := hRG
  have u0 : us 0 = .pointer (some ⟨pb, 3, none⟩) := hR.vals 0 (by decide) (hL 0 (by decide))
  have u1 : us 1 = .pointer (some ⟨pb, 3, none⟩) := hR.vals 1 (by decide) (hL 1 (by decide))
  have u2 : us 2 = .int .i64 v3 := hR.vals 2 (by decide) (hL 2 (by decide))
  have u3 : us 3 = .pointer (some ⟨rb, 0, none⟩) := hR.vals 3 (by decide) (hL 3 (by decide))
  have u4 : us 4 = .int .i64 v4 := hR.vals 4 (by decide) (hL 4 (by decide))
  have u5 : us 5 = .int .i64 (v3 + v4) := hR.vals 5 (by decide) (hL 5 (by decide))
  have u6 : us 6 = .pointer (some ⟨pb, 3, none⟩) := hR.vals 6 (by decide) (hL 6 (by decide))
  have u7 : us 7 = .pointer (some ⟨pb, 4, none⟩) := hR.vals 7 (by decide) (hL 7 (by decide))
  have R21 := hid (show RdAt W21 rb 91 b t5 by have h := hR.rd; rw [hL 4 (by decide), if_pos rfl] at h; exact h)
  have F21 := hid (show W21.heap[pb]? = some (.cells #[.int .i64 (l + v0), .int .i64 v1, .int .i64 v2, .int .i64 v3, .int .i64 (v3 + v4), .int .i64 0, .int .i64 0, .int .i64 0, .int .i64 0] 78) by have h := hR.row; rw [hL 8 (by decide), if_pos rfl] at h; exact h)
  have O21 := hid hR.only
  have G21 := hid hG
  clear hL hR hG
  simp only [putF]
  rw [hA, u0, u1, u2, u3, u4, u5, u6, u7]
  clear u0 u1 u2 u3 u4 u5 u6 u7
  have hz21 : pb < W21.heap.size := (Array.getElem?_eq_some_iff.1 F21.out).1
  go_frame
  go_wp2_with fail
  refine (unum_at _ E5.out R21.out).mono ?_
  rintro r w22 ⟨rfl, hrd, hol⟩
  have R22 := hid hrd
  have F22 := hid (show w22.heap[pb]? = some (.cells #[.int .i64 (l + v0), .int .i64 v1, .int .i64 v2, .int .i64 v3, .int .i64 (v3 + v4), .int .i64 0, .int .i64 0, .int .i64 0, .int .i64 0] 78) from hol.heap (by omega) F21.out)
  have G22 := hid (show w22.heap[qb]? = some (.cells #[.int .i64 0, .int .i64 0, .int .i64 0, .int .i64 0, .int .i64 0, .int .i64 0, .int .i64 0, .int .i64 0, .int .i64 0] 78) from hol.heap (by omega) G21.out)
  have O22 := hid (O21.out.trans hol (by first | omega | (simp; omega)))
  have hz22 : pb < w22.heap.size := (Array.getElem?_eq_some_iff.1 F22.out).1
  have c22 : w22.cell? ⟨pb, 5, none⟩ = some (.int .i64 0) := (cell_row (j := 5) F22.out).trans rfl
  have f22 : w22.frozen? ⟨pb, 5, none⟩ = false := by have hh := F22.out; simp [World.frozen?, hh]
  clear hrd hol
  go_wp2_with fail
  refine (unum_at _ E6.out (R22.out.set (by omega) (by omega) _)).mono ?_
  rintro r w23 ⟨rfl, hrd, hol⟩
  have R23 := hid hrd
  have F23 := hid (show w23.heap[pb]? = some (.cells #[.int .i64 (l + v0), .int .i64 v1, .int .i64 v2, .int .i64 v3, .int .i64 (v3 + v4), .int .i64 v5, .int .i64 0, .int .i64 0, .int .i64 0] 78) from hol.heap (by omega) (heap_setCell F22.out _))
  have G23 := hid (show w23.heap[qb]? = some (.cells #[.int .i64 0, .int .i64 0, .int .i64 0, .int .i64 0, .int .i64 0, .int .i64 0, .int .i64 0, .int .i64 0, .int .i64 0] 78) from hol.heap (by omega) (heap_set_other G22.out (by omega) _))
  have O23 := hid ((O22.out.set (by omega) _).trans hol (by first | omega | (simp; omega)))
  have hz23 : pb < w23.heap.size := (Array.getElem?_eq_some_iff.1 F23.out).1
  have c23 : w23.cell? ⟨pb, 6, none⟩ = some (.int .i64 0) := (cell_row (j := 6) F23.out).trans rfl
  have f23 : w23.frozen? ⟨pb, 6, none⟩ = false := by have hh := F23.out; simp [World.frozen?, hh]
  clear hrd hol
  go_wp2_with fail
  refine (unum_at _ E7.out (R23.out.set (by omega) (by omega) _)).mono ?_
  rintro r w24 ⟨rfl, hrd, hol⟩
  have R24 := hid hrd
  have F24 := hid (show w24.heap[pb]? = some (.cells #[.int .i64 (l + v0), .int .i64 v1, .int .i64 v2, .int .i64 v3, .int .i64 (v3 + v4), .int .i64 v5, .int .i64 v6, .int .i64 0, .int .i64 0] 78) from hol.heap (by omega) (heap_setCell F23.out _))
  have G24 := hid (show w24.heap[qb]? = some (.cells #[.int .i64 0, .int .i64 0, .int .i64 0, .int .i64 0, .int .i64 0, .int .i64 0, .int .i64 0, .int .i64 0, .int .i64 0] 78) from hol.heap (by omega) (heap_set_other G23.out (by omega) _))
  have O24 := hid ((O23.out.set (by omega) _).trans hol (by first | omega | (simp; omega)))
  have hz24 : pb < w24.heap.size := (Array.getElem?_eq_some_iff.1 F24.out).1
  have c24 : w24.cell? ⟨pb, 7, none⟩ = some (.int .i64 0) := (cell_row (j := 7) F24.out).trans rfl
  have f24 : w24.frozen? ⟨pb, 7, none⟩ = false := by have hh := F24.out; simp [World.frozen?, hh]
  clear hrd hol
  go_wp2_with fail
  refine (unum_at _ E8.out (R24.out.set (by omega) (by omega) _)).mono ?_
  rintro r w25 ⟨rfl, hrd, hol⟩
  have R25 := hid hrd
  have F25 := hid (show w25.heap[pb]? = some (.cells #[.int .i64 (l + v0), .int .i64 v1, .int .i64 v2, .int .i64 v3, .int .i64 (v3 + v4), .int .i64 v5, .int .i64 v6, .int .i64 v7, .int .i64 0] 78) from hol.heap (by omega) (heap_setCell F24.out _))
  have G25 := hid (show w25.heap[qb]? = some (.cells #[.int .i64 0, .int .i64 0, .int .i64 0, .int .i64 0, .int .i64 0, .int .i64 0, .int .i64 0, .int .i64 0, .int .i64 0] 78) from hol.heap (by omega) (heap_set_other G24.out (by omega) _))
  have O25 := hid ((O24.out.set (by omega) _).trans hol (by first | omega | (simp; omega)))
  have hz25 : pb < w25.heap.size := (Array.getElem?_eq_some_iff.1 F25.out).1
  have c25 : w25.cell? ⟨pb, 8, none⟩ = some (.int .i64 0) := (cell_row (j := 8) F25.out).trans rfl
  have f25 : w25.frozen? ⟨pb, 8, none⟩ = false := by have hh := F25.out; simp [World.frozen?, hh]
  clear hrd hol
  have RX := hid (show RdAt (w25.setCell ⟨pb, 8, none⟩ (.int .i64 v8)) rb 91 b t9 from (R25.out.set (by omega) (by omega) _))
  have FX := hid (show (w25.setCell ⟨pb, 8, none⟩ (.int .i64 v8)).heap[pb]? = some (.cells #[.int .i64 (l + v0), .int .i64 v1, .int .i64 v2, .int .i64 v3, .int .i64 (v3 + v4), .int .i64 v5, .int .i64 v6, .int .i64 v7, .int .i64 v8] 78) from (heap_setCell F25.out _))
  have GX := hid (show (w25.setCell ⟨pb, 8, none⟩ (.int .i64 v8)).heap[qb]? = some (.cells #[.int .i64 0, .int .i64 0, .int .i64 0, .int .i64 0, .int .i64 0, .int .i64 0, .int .i64 0, .int .i64 0, .int .i64 0] 78) from (heap_set_other G25.out (by omega) _))
  have OX := hid (show Only rb w.heap.size w (w25.setCell ⟨pb, 8, none⟩ (.int .i64 v8)) from (O25.out.set (by omega) _))
  have hzX : pb < (w25.setCell ⟨pb, 8, none⟩ (.int .i64 v8)).heap.size := (Array.getElem?_eq_some_iff.1 FX.out).1
  have y0 : (w25.setCell ⟨pb, 8, none⟩ (.int .i64 v8)).cell? ⟨pb, 0, none⟩ = some (.int .i64 (l + v0)) := (cell_row (j := 0) FX.out).trans rfl
  have y4 : (w25.setCell ⟨pb, 8, none⟩ (.int .i64 v8)).cell? ⟨pb, 4, none⟩ = some (.int .i64 (v3 + v4)) := (cell_row (j := 4) FX.out).trans rfl
  by_cases h1 : 1152921504606846976 < l + v0
  · have k1 : decide ((1152921504606846976 : Int) < l + v0) = true := decide_eq_true h1
    have HSX := hid (HS9.out.trans (if_pos (Or.inl h1)))
    clear h1
    have yb := RX.out.flag.1
    have yf := RX.out.flag.2
    have RY := hid RX.out.mark
    have FY := hid (heap_set_other (j := 1) (g := rb) FX.out (by omega) (.bool true))
    have GY := hid (heap_set_other (j := 1) (g := rb) GX.out (by omega) (.bool true))
    have OY := hid (only_setCell (j := 1) OX.out (.bool true))
    have d0 : ((w25.setCell ⟨pb, 8, none⟩ (.int .i64 v8)).setCell ⟨rb, 1, none⟩ (.bool true)).cell? ⟨pb, 0, none⟩ = some (.int .i64 (l + v0)) := (cell_row (j := 0) FY.out).trans rfl
    have d1 : ((w25.setCell ⟨pb, 8, none⟩ (.int .i64 v8)).setCell ⟨rb, 1, none⟩ (.bool true)).cell? ⟨pb, 1, none⟩ = some (.int .i64 v1) := (cell_row (j := 1) FY.out).trans rfl
    have d2 : ((w25.setCell ⟨pb, 8, none⟩ (.int .i64 v8)).setCell ⟨rb, 1, none⟩ (.bool true)).cell? ⟨pb, 2, none⟩ = some (.int .i64 v2) := (cell_row (j := 2) FY.out).trans rfl
    have d3 : ((w25.setCell ⟨pb, 8, none⟩ (.int .i64 v8)).setCell ⟨rb, 1, none⟩ (.bool true)).cell? ⟨pb, 3, none⟩ = some (.int .i64 v3) := (cell_row (j := 3) FY.out).trans rfl
    have d4 : ((w25.setCell ⟨pb, 8, none⟩ (.int .i64 v8)).setCell ⟨rb, 1, none⟩ (.bool true)).cell? ⟨pb, 4, none⟩ = some (.int .i64 (v3 + v4)) := (cell_row (j := 4) FY.out).trans rfl
    have d5 : ((w25.setCell ⟨pb, 8, none⟩ (.int .i64 v8)).setCell ⟨rb, 1, none⟩ (.bool true)).cell? ⟨pb, 5, none⟩ = some (.int .i64 v5) := (cell_row (j := 5) FY.out).trans rfl
    have d6 : ((w25.setCell ⟨pb, 8, none⟩ (.int .i64 v8)).setCell ⟨rb, 1, none⟩ (.bool true)).cell? ⟨pb, 6, none⟩ = some (.int .i64 v6) := (cell_row (j := 6) FY.out).trans rfl
    have d7 : ((w25.setCell ⟨pb, 8, none⟩ (.int .i64 v8)).setCell ⟨rb, 1, none⟩ (.bool true)).cell? ⟨pb, 7, none⟩ = some (.int .i64 v7) := (cell_row (j := 7) FY.out).trans rfl
    have d8 : ((w25.setCell ⟨pb, 8, none⟩ (.int .i64 v8)).setCell ⟨rb, 1, none⟩ (.bool true)).cell? ⟨pb, 8, none⟩ = some (.int .i64 v8) := (cell_row (j := 8) FY.out).trans rfl
    go_wp2_with ((refine wpList_store_at rfl 78 (.tmp 4) (.tmp 53) rfl rfl rfl GY.out size78 rfl rfl rfl ?_))
    exact bodyPost_ret (results_at1 rfl rfl (setRow_heap _ _ _ _ _ _ GY.out) Try.underlying78 rfl size78 rfl) rfl ⟨rfl, by rw [HSX.out]; exact RY.out.row (by omega) (by omega), OY.out.row hqw⟩
  · have k1 : decide ((1152921504606846976 : Int) < l + v0) = false := decide_eq_false h1
    by_cases h2 : 268435456 < v3 + v4
    · have k2 : decide ((268435456 : Int) < v3 + v4) = true := decide_eq_true h2
      have HSX := hid (HS9.out.trans (if_pos (Or.inr h2)))
      clear h1 h2
      have yb := RX.out.flag.1
      have yf := RX.out.flag.2
      have RY := hid RX.out.mark
      have FY := hid (heap_set_other (j := 1) (g := rb) FX.out (by omega) (.bool true))
      have GY := hid (heap_set_other (j := 1) (g := rb) GX.out (by omega) (.bool true))
      have OY := hid (only_setCell (j := 1) OX.out (.bool true))
      have d0 : ((w25.setCell ⟨pb, 8, none⟩ (.int .i64 v8)).setCell ⟨rb, 1, none⟩ (.bool true)).cell? ⟨pb, 0, none⟩ = some (.int .i64 (l + v0)) := (cell_row (j := 0) FY.out).trans rfl
      have d1 : ((w25.setCell ⟨pb, 8, none⟩ (.int .i64 v8)).setCell ⟨rb, 1, none⟩ (.bool true)).cell? ⟨pb, 1, none⟩ = some (.int .i64 v1) := (cell_row (j := 1) FY.out).trans rfl
      have d2 : ((w25.setCell ⟨pb, 8, none⟩ (.int .i64 v8)).setCell ⟨rb, 1, none⟩ (.bool true)).cell? ⟨pb, 2, none⟩ = some (.int .i64 v2) := (cell_row (j := 2) FY.out).trans rfl
      have d3 : ((w25.setCell ⟨pb, 8, none⟩ (.int .i64 v8)).setCell ⟨rb, 1, none⟩ (.bool true)).cell? ⟨pb, 3, none⟩ = some (.int .i64 v3) := (cell_row (j := 3) FY.out).trans rfl
      have d4 : ((w25.setCell ⟨pb, 8, none⟩ (.int .i64 v8)).setCell ⟨rb, 1, none⟩ (.bool true)).cell? ⟨pb, 4, none⟩ = some (.int .i64 (v3 + v4)) := (cell_row (j := 4) FY.out).trans rfl
      have d5 : ((w25.setCell ⟨pb, 8, none⟩ (.int .i64 v8)).setCell ⟨rb, 1, none⟩ (.bool true)).cell? ⟨pb, 5, none⟩ = some (.int .i64 v5) := (cell_row (j := 5) FY.out).trans rfl
      have d6 : ((w25.setCell ⟨pb, 8, none⟩ (.int .i64 v8)).setCell ⟨rb, 1, none⟩ (.bool true)).cell? ⟨pb, 6, none⟩ = some (.int .i64 v6) := (cell_row (j := 6) FY.out).trans rfl
      have d7 : ((w25.setCell ⟨pb, 8, none⟩ (.int .i64 v8)).setCell ⟨rb, 1, none⟩ (.bool true)).cell? ⟨pb, 7, none⟩ = some (.int .i64 v7) := (cell_row (j := 7) FY.out).trans rfl
      have d8 : ((w25.setCell ⟨pb, 8, none⟩ (.int .i64 v8)).setCell ⟨rb, 1, none⟩ (.bool true)).cell? ⟨pb, 8, none⟩ = some (.int .i64 v8) := (cell_row (j := 8) FY.out).trans rfl
      go_wp2_with ((refine wpList_store_at rfl 78 (.tmp 4) (.tmp 53) rfl rfl rfl GY.out size78 rfl rfl rfl ?_))
      exact bodyPost_ret (results_at1 rfl rfl (setRow_heap _ _ _ _ _ _ GY.out) Try.underlying78 rfl size78 rfl) rfl ⟨rfl, by rw [HSX.out]; exact RY.out.row (by omega) (by omega), OY.out.row hqw⟩
    · have k2 : decide ((268435456 : Int) < v3 + v4) = false := decide_eq_false h2
      have HSX := hid (HS9.out.trans (if_neg (fun h => h.elim h1 h2)))
      clear h1 h2
      have RY := hid RX.out
      have FY := hid FX.out
      have GY := hid GX.out
      have OY := hid OX.out
      have d1 : (w25.setCell ⟨pb, 8, none⟩ (.int .i64 v8)).cell? ⟨pb, 1, none⟩ = some (.int .i64 v1) := (cell_row (j := 1) FY.out).trans rfl
      have d2 : (w25.setCell ⟨pb, 8, none⟩ (.int .i64 v8)).cell? ⟨pb, 2, none⟩ = some (.int .i64 v2) := (cell_row (j := 2) FY.out).trans rfl
      have d3 : (w25.setCell ⟨pb, 8, none⟩ (.int .i64 v8)).cell? ⟨pb, 3, none⟩ = some (.int .i64 v3) := (cell_row (j := 3) FY.out).trans rfl
      have d5 : (w25.setCell ⟨pb, 8, none⟩ (.int .i64 v8)).cell? ⟨pb, 5, none⟩ = some (.int .i64 v5) := (cell_row (j := 5) FY.out).trans rfl
      have d6 : (w25.setCell ⟨pb, 8, none⟩ (.int .i64 v8)).cell? ⟨pb, 6, none⟩ = some (.int .i64 v6) := (cell_row (j := 6) FY.out).trans rfl
      have d7 : (w25.setCell ⟨pb, 8, none⟩ (.int .i64 v8)).cell? ⟨pb, 7, none⟩ = some (.int .i64 v7) := (cell_row (j := 7) FY.out).trans rfl
      have d8 : (w25.setCell ⟨pb, 8, none⟩ (.int .i64 v8)).cell? ⟨pb, 8, none⟩ = some (.int .i64 v8) := (cell_row (j := 8) FY.out).trans rfl
      go_wp2_with ((refine wpList_store_at rfl 78 (.tmp 4) (.tmp 53) rfl rfl rfl GY.out size78 rfl rfl rfl ?_))
      exact bodyPost_ret (results_at1 rfl rfl (setRow_heap _ _ _ _ _ _ GY.out) Try.underlying78 rfl size78 rfl) rfl ⟨rfl, by rw [HSX.out]; exact RY.out.row (by omega) (by omega), OY.out.row hqw⟩
end Go.Proofs.Ytpablkmdpoombaa
