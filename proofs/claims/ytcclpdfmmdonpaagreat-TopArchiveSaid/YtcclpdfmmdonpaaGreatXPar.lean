/- What a file says: parse (50). (Printed by wip/gen_par.py.) -/
import Derived.Test.YtcclpdfmmdonpaaGreatXTk2
import Derived.Test.YtcclpdfmmdonpaaGreatXDkv
namespace Go.Proofs.YtcclpdfmmdonpaaGreat
open Go.RowKit Go.WideShapes Go.ChangeAt Go.Maps Go.Sort
set_option maxRecDepth 100000 in
theorem xreado_any (g B : Nat) (dn : Bool) (lf i : Int) (f0 f1 : Fl) (w : World) (h : DX w B g dn lf f0 f1) (hn0 : f0.b.length <= 1000000) (hn1 : f1.b.length <= 1000000) :
    Calls Tryz.prog 49 #[.pointer (some ⟨g, 0, none⟩), .int .i64 i] w fun r w' => (∃ v', r = .returned (.tuple #[v', .int .i64 (refV i dn)]) /\ w'.ownsRow w.heap.size 5 1 v' (if refV i dn = 0 then (if i = 0 then f0.b else f1.b) else []).length (u8s (if refV i dn = 0 then (if i = 0 then f0.b else f1.b) else []))) /\ Below w.heap.size w w' := by
  have HC := hid (xrefused_any g B dn lf i f0 f1 w h); by_cases hr : refV i dn ≠ 0
  · rw [if_neg hr]; generalize refV i dn = e at *; have d1 : (e != 0) = true := by simpa using hr
    clear h; go_enter Tryz.func49, Tryz.ntmps49; go_wp2_with fail; refine HC.out.mono ?_; rintro r w1 ⟨rfl, hb⟩; go_wp2_with fail; go_ret2; exact ⟨⟨_, rfl, World.ownsRow_nil _ _ _ _⟩, hb⟩
  replace hr : refV i dn = 0 := by simpa using hr
  obtain ⟨rfl, hi⟩ := refV_range hr; rw [if_pos hr, hr]; rw [hr] at HC; have H := hid h; clear h hr
  rcases hi with rfl | rfl
  · rw [if_pos rfl]; obtain ⟨v, b, s⟩ := f0; obtain ⟨a1, c1, hv⟩ := own_slice H.out.o0; obtain rfl : v = .slice a1 b.length c1 := hv; go_enter Tryz.func49, Tryz.ntmps49; go_wp2_with fail; refine HC.out.mono ?_; rintro r w1 ⟨rfl, hb⟩; have HD := hid (H.out.still hb); have c0 : w1.cell? ⟨g, 3, none⟩ = some (.slice a1 b.length c1) := HD.out.c3; go_wp2_with fail; clear c0; refine (xclone_any _ b _ (own_rdb HD.out.o0) hn0).mono ?_; rintro r w2 ⟨⟨v', rfl, hv'⟩, hb2⟩; have HV := hid hv'; obtain ⟨a2, c2, e2⟩ := own_slice hv'; subst e2; clear hv'; go_wp2_with fail; go_ret2; exact ⟨⟨_, rfl, own_low HV.out hb.size⟩, hb.trans (hb2.mono hb.size)⟩
  · rw [if_neg (by decide)]; obtain ⟨v, b, s⟩ := f1; obtain ⟨a1, c1, hv⟩ := own_slice H.out.o1; obtain rfl : v = .slice a1 b.length c1 := hv; go_enter Tryz.func49, Tryz.ntmps49; go_wp2_with fail; refine HC.out.mono ?_; rintro r w1 ⟨rfl, hb⟩; have HD := hid (H.out.still hb); have c0 : w1.cell? ⟨g, 5, none⟩ = some (.slice a1 b.length c1) := HD.out.c5; go_wp2_with fail; clear c0; refine (xclone_any _ b _ (own_rdb HD.out.o1) hn1).mono ?_; rintro r w2 ⟨⟨v', rfl, hv'⟩, hb2⟩; have HV := hid hv'; obtain ⟨a2, c2, e2⟩ := own_slice hv'; subst e2; clear hv'; go_wp2_with fail; go_ret2; exact ⟨⟨_, rfl, own_low HV.out hb.size⟩, hb.trans (hb2.mono hb.size)⟩
theorem xreado_dk (g B : Nat) (d : Dk) (i : Int) (w : World) (h : DkV w B g d) (hd : DkOk d) (hi : i = 0 ∨ i = 1) (hu : d.dn = false) :
    Calls Tryz.prog 49 #[.pointer (some ⟨g, 0, none⟩), .int .i64 i] w fun r w' => (∃ v', r = .returned (.tuple #[v', .int .i64 0]) /\ w'.ownsRow w.heap.size 5 1 v' (d.get i).b.length (u8s (d.get i).b)) /\ Below w.heap.size w w' := by
  obtain ⟨v0, v1, h⟩ := h; refine (xreado_any g B d.dn d.lf i _ _ w h hd.n0 hd.n1).mono ?_; rintro r w1 ⟨⟨v', rfl, h1⟩, hb⟩; have hr : refV i d.dn = 0 := by
    unfold refV; rw [if_neg (by omega), hu]; rfl
  rw [hr] at h1 ⊢; have e : (if (0 : Int) = 0 then (if i = 0 then d.f0.b else d.f1.b) else []) = (d.get i).b := by
    rw [if_pos rfl]; unfold Dk.get
    split <;> rfl
  refine ⟨⟨v', rfl, ?_⟩, hb⟩; rw [<- e]; exact h1
theorem head_of {w : World} {b off : Nat} {xs rest : List Nat} (h : bytesAt w b off (recB xs ++ rest).length (fun j => (recB xs ++ rest).getD j 0)) : HdAt w b off xs.length := by
  obtain ⟨h0, h1, h2, h3⟩ := head_at xs rest; have hl : 4 <= (recB xs ++ rest).length := by rw [List.length_append, recB_len]; omega
  exact ⟨by have := h 0 (by omega); simp only [h0] at this; exact this, by have := h 1 (by omega); simp only [h1] at this; exact this, by have := h 2 (by omega); simp only [h2] at this; exact this, by have := h 3 (by omega); simp only [h3] at this; exact this⟩
theorem head_ofcut {w : World} {b off k : Nat} {xs : List Nat} (hk : 4 <= k) (hk2 : k <= (recB xs).length) (h : bytesAt w b off ((recB xs).take k).length (fun j => ((recB xs).take k).getD j 0)) : HdAt w b off xs.length := by
  obtain ⟨h0, h1, h2, h3⟩ := head_cut xs hk; have hl : 4 <= ((recB xs).take k).length := by rw [List.length_take]; omega
  exact ⟨by have := h 0 (by omega); simp only [h0] at this; exact this, by have := h 1 (by omega); simp only [h1] at this; exact this, by have := h 2 (by omega); simp only [h2] at this; exact this, by have := h 3 (by omega); simp only [h3] at this; exact this⟩
def fnOf (r : Rcd) : Nat := match r with
  | .base _ _ _ _ => 98
  | .step _ => 101
  | .stamp => 102
theorem take_any (B lb rb b : Nat) (l : Lg) (bv sv : Value) (tn : Bool) (r : Rcd) (w : World) (h : LogV w B lb l bv sv tn) (hok : r.Ok) (hr : RdAt w rb 146 b (stL r.data)) (hne : lb ≠ rb) (hnb : b ≠ lb) (hbb : b < B) (hrb : B <= rb) (hn : l.steps.length <= 10000) :
    Calls Tryz.prog (fnOf r) #[.pointer (some ⟨lb, 0, none⟩), .pointer (some ⟨rb, 0, none⟩)] w fun e w' => e = .returned (.tuple #[]) /\ ∃ bv' sv', LogV w' B lb (l.next r) bv' sv' tn /\ RdAt w' rb 146 b (stL []) /\ Below B w w' /\ MapsK w w' := by
  have hlt := (Array.getElem?_eq_some_iff.1 h.hg).1; have hB := h.hB; have hbw : B <= w.heap.size := by omega
  cases r with
  | base a c f P =>
    refine (take1_any lb rb b l bv sv tn a c f P w h.hg hok hr hne hnb).mono ?_; rintro r w1 ⟨rfl, bv', h1, h2, h3, h4⟩; obtain ⟨C, hC⟩ := hr.heap; refine ⟨rfl, bv', sv, ⟨h1, hB, OwnR.mono h2 hbw, ?_⟩, h3, h4.below (fun k hk => by omega) hbw, MapsK.fr h4 (fun k hk => by rcases hk with rfl | rfl; exact ⟨_, _, _, h.hg⟩; exact ⟨_, _, _, hC⟩)⟩
    have key : ∀ {t sz : Nat} {v : Value} {l : List (List Value)}, OwnR w B t sz v l -> t ≠ 71 -> t ≠ 146 -> OwnR w1 B t sz v l := fun {t sz v l} h9 e1 e2 => OwnR.frame h9 h4 (fun k hk e => by
      rcases e with e | e
      · exact own_not h9 h.hg e1 (by rw [<- e]; exact hk)
      · exact own_not h9 hC e2 (by rw [<- e]; exact hk))
    obtain ⟨E, e1, e2, e3⟩ := h.steps; exact ⟨E, e1, key e2 (by decide) (by decide), fun e he => ⟨key (e3 e he).1 (by decide) (by decide), key (e3 e he).2 (by decide) (by decide)⟩⟩
  | step s =>
    refine (take2_any B lb rb b l bv sv tn s w h hok hr hne hnb hbb hrb hn).mono ?_; rintro r w1 ⟨rfl, sv', h1, h2, h3, h4⟩; exact ⟨rfl, bv, sv', h1, h2, h3, h4⟩
  | stamp =>
    refine (take3_any lb l bv sv _ tn w h.hg).mono ?_; rintro r w1 ⟨rfl, h1, h2⟩; refine ⟨rfl, bv, sv, ⟨h1, hB, OwnR.other h.base h.hg (by decide) h2, h.steps.other h.hg (by decide) (by decide) (by decide) h2⟩, ?_, h2.below (fun k hk => by omega) hbw, MapsK.fr h2 (fun k hk => by subst hk; exact ⟨_, _, _, h.hg⟩)⟩; exact hr.same (h2.block rb hr.rb_lt (fun e => hne e.symm)) (h2.block b hr.b_lt hnb) h2.size
theorem MapZ.same {P : Program} {W W' : World} {k : TypeId} {b n s : Nat} {get : Lit -> Option Value} (h : MapZ P W k b n s get) (hm : MapsK W W') : MapZ P W' k b n s get := by
  obtain ⟨D, ⟨es, cl, h1, h2⟩, h3⟩ := h; exact ⟨D, ⟨es, cl, hm b es cl h1, h2⟩, h3⟩
theorem zero142 (W : World) : (zeroValue 142).run Tryz.prog W = .ok .nilFunc W := by kernel_rfl
theorem size71 : (Tryz.prog.info? 71).map (·.size) = some 7 := by kernel_rfl
set_option maxRecDepth 100000 in
theorem parse_nil (w : World) :
    Calls Tryz.prog 50 #[.slice none 0 0] w fun r w' => r = .returned (.agg (logRow Lg.zero (.slice none 0 0) (.slice none 0 0) false)) /\ Below w.heap.size w w' := by
  go_enter Tryz.func50, Tryz.ntmps50; go_wp2_with fail; refine (parsers_any _).mono ?_; rintro r w1 ⟨⟨mb, rfl, hmb, hm⟩, hb⟩; obtain ⟨lg, hlg⟩ : ∃ lg, lg = Lg.zero := ⟨_, rfl⟩; have KL9 := hid (show w1.heap[w.heap.size + 1]? = some (.cells (logRow lg (.slice none 0 0) (.slice none 0 0) false) 71) by rw [hlg]; exact heap_still hb (by repeat' (first | (refine heap_alloc_at _ _ _ ?_; (first | rfl | (simp; done) | (simp; omega))) | (refine heap_alloc_past _ _ _ _ ?_)))); have KR9 := hid (show w1.heap[w.heap.size]? = some (.cells #[.int .i64 0, .int .i64 0, .int .i64 0, .slice none 0 0, .slice none 0 0, .bool false, .bool false] 71) from heap_still hb (by repeat' (first | (refine heap_alloc_at _ _ _ ?_; (first | rfl | (simp; done) | (simp; omega))) | (refine heap_alloc_past _ _ _ _ ?_)))); have HB9 := hid (show Below w.heap.size w w1 from (show Below w.heap.size w _ by (focus ((repeat' (first | (with_reducible first | exact Below.refl _ _ | assumption | refine Below.alloc ?_ ?_ _ | refine Below.drew ?_ | refine below_drewN ?_ _ | refine Below.setCell ?_ ?_ _ | refine below_setRow ?_ ?_ _) | go_size)); done))).trans (hb.mono (by simp; omega))); clear hb hm; go_wp2_with fail; refine wp_loop_rounds 1 ?_; rw [rounds_succ]; have z6 : w1.frozen? ⟨w.heap.size + 1, 6, none⟩ = false := by have hh := KL9.out; simp [World.frozen?, hh]
  have y6 : w1.cell? ⟨w.heap.size + 1, 6, none⟩ = some (.bool false) := (cell_row (j := 6) KL9.out).trans rfl; go_upto_region 16 with fail; refine gen_world (fun WZ hWZ => ?_); have KL8 := hid (show WZ.heap[w.heap.size + 1]? = some (.cells (logRow lg (.slice none 0 0) (.slice none 0 0) false) 71) by rw [hWZ]; exact heap_setCell KL9.out _); have KR8 := hid (show WZ.heap[w.heap.size]? = some (.cells #[.int .i64 0, .int .i64 0, .int .i64 0, .slice none 0 0, .slice none 0 0, .bool false, .bool false] 71) by rw [hWZ]; exact heap_set_other KR9.out (by omega) _); have HB8 := hid (show Below w.heap.size w WZ by rw [hWZ]; exact HB9.out.setCell (Nat.le_succ _) _); have FR8 := hid (show Fr (fun k => k = w.heap.size + 1) w1 WZ by rw [hWZ]; exact Fr.set rfl); clear hWZ z6 y6; have y0 : WZ.cell? ⟨w.heap.size + 1, 0, none⟩ = some (.int .i64 lg.age) := (cell_row (j := 0) KL8.out).trans rfl; have y1 : WZ.cell? ⟨w.heap.size + 1, 1, none⟩ = some (.int .i64 lg.cap) := (cell_row (j := 1) KL8.out).trans rfl; have y2 : WZ.cell? ⟨w.heap.size + 1, 2, none⟩ = some (.int .i64 lg.first) := (cell_row (j := 2) KL8.out).trans rfl; have y3 : WZ.cell? ⟨w.heap.size + 1, 3, none⟩ = some (.slice none 0 0) := (cell_row (j := 3) KL8.out).trans rfl; have y4 : WZ.cell? ⟨w.heap.size + 1, 4, none⟩ = some (.slice none 0 0) := (cell_row (j := 4) KL8.out).trans rfl; have y5 : WZ.cell? ⟨w.heap.size + 1, 5, none⟩ = some (.bool lg.sealed) := (cell_row (j := 5) KL8.out).trans rfl; have y6 : WZ.cell? ⟨w.heap.size + 1, 6, none⟩ = some (.bool false) := (cell_row (j := 6) KL8.out).trans rfl; go_wp2_with (refine wpList_store_at rfl 71 (.tmp 2) (.tmp 70) rfl rfl rfl KR8.out size71 rfl rfl rfl ?_); refine bodyPost_ret (results_at1 rfl rfl (setRow_heap _ _ _ _ _ _ KR8.out) Tryz.underlying71 rfl size71 rfl) rfl ?_; rw [<- hlg]; exact ⟨rfl, below_setRow HB8.out (Nat.le_refl _) _⟩
theorem data_at (r : Rcd) (rest : List Nat) (j : Nat) (hj : j < r.data.length) : (recB r.body ++ rest).getD (4 + 1 + j) 0 = r.data.getD j 0 := by
  have h := rec_body r.body rest (1 + j) (by simp [Rcd.body]; omega); rw [<- Nat.add_assoc] at h; rw [h]; simp [Rcd.body, List.getD_eq_getElem?_getD, Nat.add_comm 1 j]
theorem kind_at (r : Rcd) (rest : List Nat) : (recB r.body ++ rest).getD (4 + 0) 0 = r.kind := by
  rw [rec_body r.body rest 0 (by simp [Rcd.body])]; rfl
def ParR (w : World) (b mb : Nat) (R : List Rcd) (t : List Nat) (v0 v5 : Value) (W : World) : Prop :=
  ∃ (i off m c : Nat) (bv sv : Value), i <= R.length /\ v5 = .int .i64 (i : Int) /\ v0 = .slice (some ⟨b, off, none⟩) m c /\ m = (flat (R.drop i) ++ t).length /\ m <= c /\ c <= 9223372036854775807 /\
    bytesAt w b off m (fun j => (flat (R.drop i) ++ t).getD j 0) /\ LogV W (w.heap.size + 1) (w.heap.size + 1) (lgOf (R.take i)) bv sv false /\ W.heap[w.heap.size]? = some (.cells #[.int .i64 0, .int .i64 0, .int .i64 0, .slice none 0 0, .slice none 0 0, .bool false, .bool false] 71) /\
    MapZ Tryz.prog W 5 mb 3 3 parsG /\ w.heap.size + 2 <= mb /\ Below w.heap.size w W
theorem steps_take {R : List Rcd} (i : Nat) : (lgOf (R.take i)).steps.length <= i := by
  induction i with
  | zero => simp [lgOf, Lg.zero]
  | succ i ih =>
    by_cases h : i < R.length
    · rw [lgOf_next (List.getElem?_eq_getElem h)]
      cases R[i] <;> simp [Lg.next] <;> omega
    · rw [List.take_of_length_le (by omega)]; rw [List.take_of_length_le (by omega)] at ih; omega
theorem Fr.row {g : Nat} {W : World} {C : Array Value} : Fr (fun k => k = g) W (W.setRow g C) := ⟨rfl, rfl, rfl, by simp, fun k _ hn => setRow_other _ _ _ _ hn⟩
set_option maxRecDepth 100000 in
set_option maxHeartbeats 3200000 in
theorem parse_some (b cap : Nat) (bs : List Nat) (R : List Rcd) (t : List Nat) (w : World) (hbl : b < w.heap.size) (hcap : bs.length <= cap) (hcm : cap <= 9223372036854775807) (hby : bytesAt w b 0 bs.length (fun j => bs.getD j 0)) (hc : Cont bs R t) (hn : R.length <= 1000) :
    Calls Tryz.prog 50 #[.slice (some ⟨b, 0, none⟩) bs.length cap] w fun r w' => (∃ bv sv, r = .returned (.agg (logRow (lgOf R) bv sv (decide (t ≠ [])))) /\ OwnP w' w.heap.size bv (lgOf R).base /\ OwnS w' w.heap.size sv (lgOf R).steps) /\ Below w.heap.size w w' := by
  have HSTM := hid hc.stm; have HTN := hid hc.torn; obtain ⟨m0, hm0⟩ : ∃ m0, m0 = bs.length := ⟨_, rfl⟩; rw [<- hm0] at hcap hby ⊢; have hbe : bs = flat (R.drop 0) ++ t := by rw [List.drop_zero]; exact hc.eq
  have HM0 := hid (show m0 = (flat (R.drop 0) ++ t).length by rw [<- hbe]; exact hm0); rw [hbe] at hby; have HBY := hid hby; have HBL := hid hbl; clear hbl hby hbe hc hm0; go_enter Tryz.func50, Tryz.ntmps50; go_wp2_with fail; refine (parsers_any _).mono ?_; rintro r w1 ⟨⟨mb, rfl, hmb, hm⟩, hb⟩; have KL1 := hid (show w1.heap[w.heap.size + 1]? = some (.cells (logRow Lg.zero (.slice none 0 0) (.slice none 0 0) false) 71) from heap_still hb (by repeat' (first | (refine heap_alloc_at _ _ _ ?_; (first | rfl | (simp; done) | (simp; omega))) | (refine heap_alloc_past _ _ _ _ ?_)))); have KR1 := hid (show w1.heap[w.heap.size]? = some (.cells #[.int .i64 0, .int .i64 0, .int .i64 0, .slice none 0 0, .slice none 0 0, .bool false, .bool false] 71) from heap_still hb (by repeat' (first | (refine heap_alloc_at _ _ _ ?_; (first | rfl | (simp; done) | (simp; omega))) | (refine heap_alloc_past _ _ _ _ ?_)))); have HB1 := hid (show Below w.heap.size w w1 from (show Below w.heap.size w _ by (focus ((repeat' (first | (with_reducible first | exact Below.refl _ _ | assumption | refine Below.alloc ?_ ?_ _ | refine Below.drew ?_ | refine below_drewN ?_ _ | refine Below.setCell ?_ ?_ _ | refine below_setRow ?_ ?_ _) | go_size)); done))).trans (hb.mono (by simp; omega))); have HM1 := hid hm; have HMB := hid (show w.heap.size + 2 <= mb by simp at hmb; omega); clear hb hm hmb; go_wp2_with fail
  go_loopw [0, 5, 6, 7, 8, 9, 10, 11] (fun v0 v5 _ _ _ _ _ _ W => ParR w b mb R t v0 v5 W) (fun _ v5 _ _ _ _ _ _ _ => R.length - (intOf v5).toNat)
  case atStart => exact ⟨0, 0, m0, cap, _, _, Nat.zero_le _, rfl, rfl, HM0.out, hcap, hcm, HBY.out, ⟨KL1.out, Nat.le_refl _, OwnR.nil _ _ _ _, OwnS.nil _ _⟩, KR1.out, HM1.out, HMB.out, HB1.out⟩
  case round =>
    obtain ⟨i, off, m, c, bv, sv, hi, rfl, rfl, hm, hmc, hcx, hby, hlv, hkr, hmz, hmb2, hbw⟩ := hrel; have HM := hid hm; have HBY2 := hid hby; have LV := hid hlv; have KR := hid hkr; have MZ := hid hmz; have HBW := hid hbw; clear hm hby hlv hkr hmz hbw KL1 KR1 HB1 HM1 HM0 HBY; by_cases hlt : i < R.length
    · obtain ⟨rc, hrc⟩ : ∃ rc, R[i]? = some rc := ⟨R[i], List.getElem?_eq_getElem hlt⟩; obtain ⟨hok, hk1⟩ := HSTM.out i rc hrc; have hfd := flat_drop hrc; obtain ⟨rest, hrest⟩ : ∃ rest, rest = flat (R.drop (i + 1)) ++ t := ⟨_, rfl⟩; have hcur : flat (R.drop i) ++ t = recB rc.body ++ rest := by rw [hfd, hrest, List.append_assoc]; rfl
      rw [hcur] at HM HBY2; obtain ⟨n, hn1⟩ : ∃ n, n = rc.body.length := ⟨_, rfl⟩; obtain ⟨k, hk⟩ : ∃ k, k = rest.length := ⟨_, rfl⟩; have hbody := body_len hok; have hmn : m = n + 8 + k := by rw [HM.out, List.length_append, recB_len, hn1, hk]
      have hgb : ∀ j, (recB rc.body ++ rest).getD j 0 < 256 := getD_byte (app_byte (recB_byte (body_byte rc)) (by rw [hrest]; exact app_byte (flat_byte _) HTN.out.byte)); have hbyW : ∀ W, Below w.heap.size w W -> bytesAt W b off m (fun j => (recB rc.body ++ rest).getD j 0) := fun W hW j hj => by rw [hW.cell HBL.out]; exact HBY2.out j hj
      have HNX := hid (fun W hW => next_full b off m c n k (fun j => (recB rc.body ++ rest).getD j 0) W (by omega) (by omega) hmn hmc hcx (by rw [hn1]; exact head_of (by rw [<- HM.out]; exact hbyW W hW)) (fun j hj => hbyW W hW j (by omega)) hgb (by rw [hn1]; exact rec_sum rc.body rest))
      have HK4 := hid (fun W hW => show World.cell? W ⟨b, off + 4, none⟩ = some (.int .u8 (rc.kind : Int)) from by
        have h4 := hbyW W hW (4 + 0) (by omega); simp only [kind_at rc rest] at h4
        exact h4)
      have HMN := hid hmn; have HNN := hid hn1; have hn9 : 1 <= n /\ n <= 83000 := by omega
      have hm9 : 9 <= m := by omega
      have HOK := hid hok
      have HDT := hid (fun W hW => show bytesAt W b (off + 4 + 1) (n - 1) (fun j => rc.data.getD j 0) from fun j hj => by
        have hdl : rc.data.length = n - 1 := by rw [hn1]; simp [Rcd.body]
        have h4 := hbyW W hW (4 + 1 + j) (by omega); simp only [data_at rc rest j (by omega)] at h4; rw [show off + (4 + 1 + j) = off + 4 + 1 + j by omega] at h4
        exact h4)
      have HLN := hid (show (lgOf (R.take i)).steps.length <= 10000 by have := steps_take (R := R) i; omega); have HNXT := hid (lgOf_next hrc); have HK1 := hid hk1; have HREST := hid hrest; have HKK := hid hk
      have HRB := hid (fun (j : Nat) (hj : j < k) => show w.cell? ⟨b, off + (n + 8) + j, none⟩ = some (.int .u8 ((rest.getD j 0 : Nat) : Int)) from by
        have h4 := HBY2.out (rc.body.length + 8 + j) (by omega); simp only [rec_rest rc.body rest j] at h4; rw [show off + (rc.body.length + 8 + j) = off + (n + 8) + j by omega] at h4
        exact h4)
      clear hok hk1 hfd hrest hcur hn1 hk hbody hmn hgb hbyW hrc; have d1 : decide ((0 : Int) < (m : Int)) = true := decide_eq_true (by omega); have d1' : 0 < m := by omega
      go_wp2_with fail; refine (HNX.out wr HBW.out).mono ?_; rintro r w2 ⟨⟨o, ho, rfl⟩, hb2⟩; have HO := hid ho; have HB2 := hid (HBW.out.trans (hb2.mono HBW.out.size)); have LV2 := hid (LV.out.still hb2); have KR2 := hid (heap_still hb2 KR.out); have MZ2 := hid (MZ.out.grow hb2); clear ho hb2 LV KR MZ HBW HNX
      have CALL := hid (fun W (h : Below w2.heap.size w2 W) (hh : W.heap[w2.heap.size]? = some (.cells #[.slice (some ⟨b, off + 4 + 1, none⟩) (n - 1) (c - 4 - 1), .bool false] 146)) => take_any (w.heap.size + 1) (w.heap.size + 1) w2.heap.size b (lgOf (R.take i)) bv sv false rc W (LV2.out.still h) HOK.out
        ⟨off + 4 + 1, c - 4 - 1, by rw [show (stL rc.data).m = n - 1 by rw [HNN.out]; simp [stL, Rcd.body]]; exact hh, by rw [show (stL rc.data).m = n - 1 by rw [HNN.out]; simp [stL, Rcd.body]]; have := HMN.out; omega, by omega, by rw [show (stL rc.data).m = n - 1 by rw [HNN.out]; simp [stL, Rcd.body]]; exact HDT.out W (HB2.out.trans (h.mono HB2.out.size)), by have h1 := HB2.out.size; have h2 := HBL.out; omega, getD_byte (data_byte rc), by have h1 := HB2.out.size; have h2 := h.size; have h3 := HBL.out; omega⟩
        (by have h1 := (Array.getElem?_eq_some_iff.1 LV2.out.hg).1; omega) (by have := HBL.out; omega) (by have := HBL.out; omega) (by have h1 := (Array.getElem?_eq_some_iff.1 LV2.out.hg).1; omega) HLN.out)
      have HF2 := hid (show (rc.kind = 1 /\ ((i : Int) == 0) = true /\ fnOf rc = 98) ∨ (rc.kind = 2 /\ ((i : Int) == 0) = false /\ fnOf rc = 101) ∨ (rc.kind = 3 /\ ((i : Int) == 0) = false /\ fnOf rc = 102) from by
        have h1 := HK1.out
        cases rc with
        | base a c f P => have := h1.1 rfl; exact .inl ⟨rfl, by simp; omega, rfl⟩
        | step s => exact .inr (.inl ⟨rfl, by simp only [Rcd.kind] at h1; simp; omega, rfl⟩)
        | stamp => exact .inr (.inr ⟨rfl, by simp only [Rcd.kind] at h1; simp; omega, rfl⟩))
      rw [show (lgOf (R.take i)).next rc = lgOf (R.take (i + 1)) from HNXT.out.symm] at CALL; clear HNXT LV2 HOK HNN HDT HLN HK1
      rcases HF2.out with ⟨hkd, d3, hfn⟩ | ⟨hkd, d3, hfn⟩ | ⟨hkd, d3, hfn⟩
      ·
        have q4 : w2.cell? ⟨b, off + 4, none⟩ = some (.int .u8 1) := by have := HK4.out w2 HB2.out; rw [hkd] at this; exact this
        rw [hfn] at CALL; clear hfn hkd HK4 HF2; have hlk : (Instr.lookup 138 (.map (some mb)) (.int .u8 1) true).run Tryz.prog w2 = .ok (.tuple #[.func (.func 98) #[] #[], .bool true]) w2 := by
          have := MZ2.out.look_ok law5 Tryz.underlying138 (zero142 w2) key8_1; rw [parsG_at.1] at this; exact this
        go_wp2_with fail; refine (CALL.out _ ((Below.refl _ _).alloc (Nat.le_refl _) _) (heap_alloc_at _ _ _ rfl)).mono ?_; rintro r w4 ⟨rfl, bv4, sv4, hlv, hrd, hb4, hmk⟩; have HBA := hid (show Below w2.heap.size w2 (w2.alloc (.cells #[.slice (some ⟨b, off + 4 + 1, none⟩) (n - 1) (c - 4 - 1), .bool false] 146)) from (Below.refl _ _).alloc (Nat.le_refl _) _); have LV4 := hid hlv; have MZ4 := hid ((MZ2.out.grow HBA.out).same hmk); have KR4 := hid (heap_below hb4 (Nat.lt_succ_self _) (heap_still HBA.out KR2.out)); have HB4 := hid (show Below w.heap.size w w4 from (HB2.out.trans (HBA.out.mono HB2.out.size)).trans (hb4.mono (Nat.le_succ _))); obtain ⟨o5, c5, hr5, _⟩ := hrd; have e0 : w4.cell? ⟨w2.heap.size, 0, none⟩ = some (.slice (some ⟨b, o5, none⟩) 0 c5) := (cell_row (j := 0) hr5).trans rfl; have e1 : w4.cell? ⟨w2.heap.size, 1, none⟩ = some (.bool false) := (cell_row (j := 1) hr5).trans rfl; clear hlv hb4 hmk hr5 CALL MZ2 KR2 q4 hlk HBA; go_wp2_with fail; go_roundw
        case rel => exact ⟨i + 1, o, k, c - (n + 8), bv4, sv4, by omega, by go_num, rfl, by rw [HKK.out, HREST.out], by have := HMN.out; omega, by omega, fun j hj => by
          have hoo := HO.out
          rcases hoo with hoo | hoo
          · rw [hoo, <- HREST.out]; exact HRB.out j hj
          · omega, LV4.out, KR4.out, MZ4.out, by assumption, HB4.out⟩
        case measure => simp [intOf]; omega
      ·
        have q4 : w2.cell? ⟨b, off + 4, none⟩ = some (.int .u8 2) := by have := HK4.out w2 HB2.out; rw [hkd] at this; exact this
        rw [hfn] at CALL; clear hfn hkd HK4 HF2; have hlk : (Instr.lookup 138 (.map (some mb)) (.int .u8 2) true).run Tryz.prog w2 = .ok (.tuple #[.func (.func 101) #[] #[], .bool true]) w2 := by
          have := MZ2.out.look_ok law5 Tryz.underlying138 (zero142 w2) key8_2; rw [parsG_at.2.1] at this; exact this
        go_wp2_with fail; refine (CALL.out _ ((Below.refl _ _).alloc (Nat.le_refl _) _) (heap_alloc_at _ _ _ rfl)).mono ?_; rintro r w4 ⟨rfl, bv4, sv4, hlv, hrd, hb4, hmk⟩; have HBA := hid (show Below w2.heap.size w2 (w2.alloc (.cells #[.slice (some ⟨b, off + 4 + 1, none⟩) (n - 1) (c - 4 - 1), .bool false] 146)) from (Below.refl _ _).alloc (Nat.le_refl _) _); have LV4 := hid hlv; have MZ4 := hid ((MZ2.out.grow HBA.out).same hmk); have KR4 := hid (heap_below hb4 (Nat.lt_succ_self _) (heap_still HBA.out KR2.out)); have HB4 := hid (show Below w.heap.size w w4 from (HB2.out.trans (HBA.out.mono HB2.out.size)).trans (hb4.mono (Nat.le_succ _))); obtain ⟨o5, c5, hr5, _⟩ := hrd; have e0 : w4.cell? ⟨w2.heap.size, 0, none⟩ = some (.slice (some ⟨b, o5, none⟩) 0 c5) := (cell_row (j := 0) hr5).trans rfl; have e1 : w4.cell? ⟨w2.heap.size, 1, none⟩ = some (.bool false) := (cell_row (j := 1) hr5).trans rfl; clear hlv hb4 hmk hr5 CALL MZ2 KR2 q4 hlk HBA; go_wp2_with fail; go_roundw
        case rel => exact ⟨i + 1, o, k, c - (n + 8), bv4, sv4, by omega, by go_num, rfl, by rw [HKK.out, HREST.out], by have := HMN.out; omega, by omega, fun j hj => by
          have hoo := HO.out
          rcases hoo with hoo | hoo
          · rw [hoo, <- HREST.out]; exact HRB.out j hj
          · omega, LV4.out, KR4.out, MZ4.out, by assumption, HB4.out⟩
        case measure => simp [intOf]; omega
      ·
        have q4 : w2.cell? ⟨b, off + 4, none⟩ = some (.int .u8 3) := by have := HK4.out w2 HB2.out; rw [hkd] at this; exact this
        rw [hfn] at CALL; clear hfn hkd HK4 HF2; have hlk : (Instr.lookup 138 (.map (some mb)) (.int .u8 3) true).run Tryz.prog w2 = .ok (.tuple #[.func (.func 102) #[] #[], .bool true]) w2 := by
          have := MZ2.out.look_ok law5 Tryz.underlying138 (zero142 w2) key8_3; rw [parsG_at.2.2] at this; exact this
        go_wp2_with fail; refine (CALL.out _ ((Below.refl _ _).alloc (Nat.le_refl _) _) (heap_alloc_at _ _ _ rfl)).mono ?_; rintro r w4 ⟨rfl, bv4, sv4, hlv, hrd, hb4, hmk⟩; have HBA := hid (show Below w2.heap.size w2 (w2.alloc (.cells #[.slice (some ⟨b, off + 4 + 1, none⟩) (n - 1) (c - 4 - 1), .bool false] 146)) from (Below.refl _ _).alloc (Nat.le_refl _) _); have LV4 := hid hlv; have MZ4 := hid ((MZ2.out.grow HBA.out).same hmk); have KR4 := hid (heap_below hb4 (Nat.lt_succ_self _) (heap_still HBA.out KR2.out)); have HB4 := hid (show Below w.heap.size w w4 from (HB2.out.trans (HBA.out.mono HB2.out.size)).trans (hb4.mono (Nat.le_succ _))); obtain ⟨o5, c5, hr5, _⟩ := hrd; have e0 : w4.cell? ⟨w2.heap.size, 0, none⟩ = some (.slice (some ⟨b, o5, none⟩) 0 c5) := (cell_row (j := 0) hr5).trans rfl; have e1 : w4.cell? ⟨w2.heap.size, 1, none⟩ = some (.bool false) := (cell_row (j := 1) hr5).trans rfl; clear hlv hb4 hmk hr5 CALL MZ2 KR2 q4 hlk HBA; go_wp2_with fail; go_roundw
        case rel => exact ⟨i + 1, o, k, c - (n + 8), bv4, sv4, by omega, by go_num, rfl, by rw [HKK.out, HREST.out], by have := HMN.out; omega, by omega, fun j hj => by
          have hoo := HO.out
          rcases hoo with hoo | hoo
          · rw [hoo, <- HREST.out]; exact HRB.out j hj
          · omega, LV4.out, KR4.out, MZ4.out, by assumption, HB4.out⟩
        case measure => simp [intOf]; omega
    · obtain rfl : i = R.length := by omega
      have hdr : flat (R.drop R.length) ++ t = t := by rw [List.drop_length]; rfl
      rw [hdr] at HM HBY2; obtain ⟨lg, hlg⟩ : ∃ lg, lg = lgOf R := ⟨_, rfl⟩; rw [List.take_length, <- hlg] at LV; obtain ⟨ba, bc, hbv⟩ := OwnP.slice LV.out.base; obtain ⟨sa, sc, hsv⟩ := LV.out.steps.slice; subst hbv hsv; have HLG := hid hlg; generalize hbn : lg.base.length = bn at *; generalize hsn : lg.steps.length = sn at *; clear hbn hsn hlg hdr; by_cases ht : t = []
      · have hm0 : m = 0 := by rw [HM.out, ht]; rfl
        have hdt : decide (t ≠ []) = false := by simp [ht]
        have HD9 := hid hdt; subst hm0; have KL9 := hid LV.out.hg; have KR9 := KR; have HB9 := HBW; have d1 : decide ((0 : Int) < ((0 : Nat) : Int)) = false := by decide
        clear MZ HSTM HTN HM HBY2 hdt ht; unfold logRow at KL9; have z6 : wr.frozen? ⟨w.heap.size + 1, 6, none⟩ = false := by have hh := KL9.out; simp [World.frozen?, hh]
        have y6 : wr.cell? ⟨w.heap.size + 1, 6, none⟩ = some (.bool false) := (cell_row (j := 6) KL9.out).trans rfl; go_upto_region 16 with fail; refine gen_world (fun WZ hWZ => ?_); have KL8 := hid (show WZ.heap[w.heap.size + 1]? = some (.cells (logRow lg (.slice ba bn bc) (.slice sa sn sc) false) 71) by rw [hWZ]; exact heap_setCell KL9.out _); have KR8 := hid (show WZ.heap[w.heap.size]? = some (.cells #[.int .i64 0, .int .i64 0, .int .i64 0, .slice none 0 0, .slice none 0 0, .bool false, .bool false] 71) by rw [hWZ]; exact heap_set_other KR9.out (by omega) _); have HB8 := hid (show Below w.heap.size w WZ by rw [hWZ]; exact HB9.out.setCell (Nat.le_succ _) _); have FR8 := hid (show Fr (fun k => k = w.heap.size + 1) wr WZ by rw [hWZ]; exact Fr.set rfl); clear hWZ z6 y6; have y0 : WZ.cell? ⟨w.heap.size + 1, 0, none⟩ = some (.int .i64 lg.age) := (cell_row (j := 0) KL8.out).trans rfl; have y1 : WZ.cell? ⟨w.heap.size + 1, 1, none⟩ = some (.int .i64 lg.cap) := (cell_row (j := 1) KL8.out).trans rfl; have y2 : WZ.cell? ⟨w.heap.size + 1, 2, none⟩ = some (.int .i64 lg.first) := (cell_row (j := 2) KL8.out).trans rfl; have y3 : WZ.cell? ⟨w.heap.size + 1, 3, none⟩ = some (.slice ba bn bc) := (cell_row (j := 3) KL8.out).trans rfl; have y4 : WZ.cell? ⟨w.heap.size + 1, 4, none⟩ = some (.slice sa sn sc) := (cell_row (j := 4) KL8.out).trans rfl; have y5 : WZ.cell? ⟨w.heap.size + 1, 5, none⟩ = some (.bool lg.sealed) := (cell_row (j := 5) KL8.out).trans rfl; have y6 : WZ.cell? ⟨w.heap.size + 1, 6, none⟩ = some (.bool false) := (cell_row (j := 6) KL8.out).trans rfl; go_wp2_with (refine wpList_store_at rfl 71 (.tmp 2) (.tmp 70) rfl rfl rfl KR8.out size71 rfl rfl rfl ?_); refine bodyPost_ret (results_at1 rfl rfl (setRow_heap _ _ _ _ _ _ KR8.out) Tryz.underlying71 rfl size71 rfl) rfl ?_; have F9 : Fr (fun k => k = w.heap.size) WZ (WZ.setRow w.heap.size #[.int .i64 lg.age, .int .i64 lg.cap, .int .i64 lg.first, .slice ba bn bc, .slice sa sn sc, .bool lg.sealed, .bool false]) := Fr.row; rw [<- HLG.out, HD9.out]; refine ⟨⟨_, _, rfl, ?_, ?_⟩, below_setRow HB8.out (Nat.le_refl _) _⟩
        · exact OwnR.other (OwnR.other (OwnR.mono LV.out.base (Nat.le_succ _) : OwnP wr w.heap.size _ _) LV.out.hg (by decide) FR8.out) KR8.out (by decide) F9
        · exact OwnS.other (OwnS.other (OwnS.mono LV.out.steps (Nat.le_succ _)) LV.out.hg (by decide) (by decide) (by decide) FR8.out) KR8.out (by decide) (by decide) (by decide) F9
      · have hdt : decide (t ≠ []) = true := by simp [ht]
        have HD9 := hid hdt; have hmp : 0 < m := by rw [HM.out]; exact List.length_pos_iff.2 ht
        have d1 : decide ((0 : Int) < (m : Int)) = true := decide_eq_true (by omega)
        have HNX := hid (show Calls Tryz.prog 78 #[.slice (some ⟨b, off, none⟩) m c] wr fun r w' => r = .returned (.tuple #[.slice none 0 0, .slice none 0 0, .bool false]) /\ Below wr.heap.size wr w' from by
          obtain ⟨r, hro, k0, hk0, hte⟩ := HTN.out; have hmk : m = k0 := by rw [HM.out, hte, List.length_take]; omega
          by_cases h4 : m < 4
          · exact next_short _ m c wr h4
          · have hbo := body_len hro; have hel := enc_len r; refine next_cut b off m c r.body.length wr (by omega) hbo.1 (by omega) (by omega) (head_ofcut (k := k0) (by omega) (by show k0 <= r.enc.length; omega) ?_); intro j hj; rw [HBW.out.cell HBL.out]; have h1 := HBY2.out j (by rw [hmk]; rw [List.length_take] at hj; omega); rw [hte] at h1
            exact h1)
        clear MZ HSTM HTN HM HBY2 hdt ht; go_wp2_with fail; refine HNX.out.mono ?_; rintro r w2 ⟨rfl, hb2⟩; have KL9 := hid (heap_still hb2 LV.out.hg); have KR9 := hid (heap_still hb2 KR.out); have HB9 := hid (HBW.out.trans (hb2.mono HBW.out.size)); have LV2 := hid (LV.out.still hb2); clear hb2 HNX LV KR HBW; have LV := LV2; clear LV2; unfold logRow at KL9; have z6 : w2.frozen? ⟨w.heap.size + 1, 6, none⟩ = false := by have hh := KL9.out; simp [World.frozen?, hh]
        have y6 : w2.cell? ⟨w.heap.size + 1, 6, none⟩ = some (.bool false) := (cell_row (j := 6) KL9.out).trans rfl; go_upto_region 16 with fail; refine gen_world (fun WZ hWZ => ?_); have KL8 := hid (show WZ.heap[w.heap.size + 1]? = some (.cells (logRow lg (.slice ba bn bc) (.slice sa sn sc) true) 71) by rw [hWZ]; exact heap_setCell KL9.out _); have KR8 := hid (show WZ.heap[w.heap.size]? = some (.cells #[.int .i64 0, .int .i64 0, .int .i64 0, .slice none 0 0, .slice none 0 0, .bool false, .bool false] 71) by rw [hWZ]; exact heap_set_other KR9.out (by omega) _); have HB8 := hid (show Below w.heap.size w WZ by rw [hWZ]; exact HB9.out.setCell (Nat.le_succ _) _); have FR8 := hid (show Fr (fun k => k = w.heap.size + 1) w2 WZ by rw [hWZ]; exact Fr.set rfl); clear hWZ z6 y6; have y0 : WZ.cell? ⟨w.heap.size + 1, 0, none⟩ = some (.int .i64 lg.age) := (cell_row (j := 0) KL8.out).trans rfl; have y1 : WZ.cell? ⟨w.heap.size + 1, 1, none⟩ = some (.int .i64 lg.cap) := (cell_row (j := 1) KL8.out).trans rfl; have y2 : WZ.cell? ⟨w.heap.size + 1, 2, none⟩ = some (.int .i64 lg.first) := (cell_row (j := 2) KL8.out).trans rfl; have y3 : WZ.cell? ⟨w.heap.size + 1, 3, none⟩ = some (.slice ba bn bc) := (cell_row (j := 3) KL8.out).trans rfl; have y4 : WZ.cell? ⟨w.heap.size + 1, 4, none⟩ = some (.slice sa sn sc) := (cell_row (j := 4) KL8.out).trans rfl; have y5 : WZ.cell? ⟨w.heap.size + 1, 5, none⟩ = some (.bool lg.sealed) := (cell_row (j := 5) KL8.out).trans rfl; have y6 : WZ.cell? ⟨w.heap.size + 1, 6, none⟩ = some (.bool true) := (cell_row (j := 6) KL8.out).trans rfl; go_wp2_with (refine wpList_store_at rfl 71 (.tmp 2) (.tmp 70) rfl rfl rfl KR8.out size71 rfl rfl rfl ?_); refine bodyPost_ret (results_at1 rfl rfl (setRow_heap _ _ _ _ _ _ KR8.out) Tryz.underlying71 rfl size71 rfl) rfl ?_; have F9 : Fr (fun k => k = w.heap.size) WZ (WZ.setRow w.heap.size #[.int .i64 lg.age, .int .i64 lg.cap, .int .i64 lg.first, .slice ba bn bc, .slice sa sn sc, .bool lg.sealed, .bool true]) := Fr.row; rw [<- HLG.out, HD9.out]; refine ⟨⟨_, _, rfl, ?_, ?_⟩, below_setRow HB8.out (Nat.le_refl _) _⟩
        · exact OwnR.other (OwnR.other (OwnR.mono LV.out.base (Nat.le_succ _) : OwnP w2 w.heap.size _ _) LV.out.hg (by decide) FR8.out) KR8.out (by decide) F9
        · exact OwnS.other (OwnS.other (OwnS.mono LV.out.steps (Nat.le_succ _)) LV.out.hg (by decide) (by decide) (by decide) FR8.out) KR8.out (by decide) (by decide) (by decide) F9
theorem parse_any (v : Value) (B : Nat) (bs : List Nat) (R : List Rcd) (t : List Nat) (w : World) (h : w.ownsRow B 5 1 v bs.length (u8s bs)) (hc : Cont bs R t) (hn : R.length <= 1000) :
    Calls Tryz.prog 50 #[v] w fun r w' => (∃ bv sv, r = .returned (.agg (logRow (lgOf R) bv sv (decide (t ≠ [])))) /\ OwnP w' w.heap.size bv (lgOf R).base /\ OwnS w' w.heap.size sv (lgOf R).steps) /\ Below w.heap.size w w' := by
  have hh := h; obtain ⟨_, hv⟩ := h
  rcases hv with ⟨rfl, h0⟩ | ⟨g, cap, cur, rfl, _, hg, h1, h2, h3, h4⟩
  · have hb : bs = [] := List.length_eq_zero_iff.1 h0; subst hb; have he := hc.eq; have ht : t = [] := (List.append_eq_nil_iff.1 he.symm).2; have hR : R = [] := by
      cases R with
      | nil => rfl
      | cons r R =>
        have h1 := (List.append_eq_nil_iff.1 he.symm).1; rw [flat_cons] at h1; have h2 := congrArg List.length (List.append_eq_nil_iff.1 h1).1; rw [enc_len] at h2; simp at h2
    subst ht hR; refine (parse_nil w).mono ?_; rintro r w1 ⟨rfl, hb⟩; exact ⟨⟨_, _, rfl, OwnR.nil _ _ _ _, OwnS.nil _ _⟩, hb⟩
  · have hcm : cap <= 9223372036854775807 := by unfold maxLen at h2; omega
    exact parse_some g cap bs R t w (Array.getElem?_eq_some_iff.1 hg).1 h1 hcm (u8s_cells hh) hc hn
end Go.Proofs.YtcclpdfmmdonpaaGreat
