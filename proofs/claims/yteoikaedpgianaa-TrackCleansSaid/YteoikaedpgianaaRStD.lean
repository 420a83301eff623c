/- The reference's states (127), whole. (Printed by wip/gen_std.py.) -/
import Derived.Test.YteoikaedpgianaaRStB
namespace Go.Proofs.Yteoikaedpgianaa
open Go.RowKit Go.Sort Go.Lib Go.Shelf Go.Proofs

def intF (f : Nat → Int) (j : Nat) : Value := .int .i64 (f j)
def boolF (f : Nat → Bool) (j : Nat) : Value := .bool (f j)
theorem upd_int (f : Nat → Int) (i : Nat) (v : Int) (j : Nat) : updG (intF f) i (.int .i64 v) j = intF (updG f i v) j := by
  by_cases h : j = i <;> simp [updG, intF, h]
theorem upd_bool (f : Nat → Bool) (i : Nat) (v : Bool) (j : Nat) : updG (boolF f) i (.bool v) j = boolF (updG f i v) j := by
  by_cases h : j = i <;> simp [updG, boolF, h]
theorem upd_intF (f : Nat → Int) (i : Nat) (v : Int) : updG (intF f) i (.int .i64 v) = intF (updG f i v) := funext (upd_int f i v)
theorem updN_int (f : Nat → Int) (a b c : Nat) : updN (intF f) [a, b, c] 3 = intF (updG (updG (updG f a 0) b 0) c 0) := by
  show updG (updG (updG (intF f) a (.int .i64 0)) b (.int .i64 0)) c (.int .i64 0) = _
  rw [upd_intF, upd_intF, upd_intF]
theorem rows_int1 {W : World} {q : Nat} {z : Int} (h : W.heap[q]? = some (.cells #[.int .i64 z] 3)) : RowsAt W q 0 1 [[.int .i64 z]] := fun i r hi j hj => by
  match i, hi with
  | 0, hi =>
    injection hi with hi
    subst hi
    rw [cell_row h]
    match j, hj with
    | 0, _ => rfl
theorem wide_int1 {z : Int} : Wide 1 [[Value.int .i64 z]] := Wide.one rfl (fun u hu => by rw [List.mem_singleton.1 hu]; rfl)
theorem RowF.via {W W' : World} {g t n : Nat} {f : Nat → Value} (h : RowF W g t n f) (hk : ∀ C, W.heap[g]? = some (.cells C t) → W'.heap[g]? = some (.cells C t)) : RowF W' g t n f := by
  obtain ⟨C, h1, h2⟩ := h
  exact ⟨C, hk C h1, h2⟩
theorem Rows_via {W W' : World} {b off k : Nat} {l : List (List Value)} (h : RowsAt W b off k l) (hk : ∀ o, W.heap[b]? = some o → W'.heap[b]? = some o) (hl : ∀ r, r ∈ l → r.length = k) : RowsAt W' b off k l := fun i r hi j hj => by
  have h1 := h i r hi j hj
  obtain ⟨v, hv⟩ : ∃ v, r[j]? = some v := ⟨_, List.getElem?_eq_getElem (by rw [hl r (List.mem_of_getElem? hi)]; exact hj)⟩
  rw [hv] at h1 ⊢
  cases hb : W.heap[b]? with
  | none => unfold World.cell? at h1; simp [hb] at h1
  | some o =>
    rw [← h1]
    unfold World.cell?
    simp only
    rw [hk o hb, hb]
theorem jump_of {near : Fx → Fx → Bool} {L : List Fx} {R : List Nat} {i sn : Nat} {x : Fx} (hsn : sn = R.length + 1) (hx : L[i]? = some x) (hlow : ∀ p ∈ R, p < L.length) :
    (sn < 3 ∧ jumpR near L (R ++ [i]) = false) ∨ ∃ (k a c : Nat) (xa xb : Fx), sn = k + 3 ∧ (R ++ [i])[k]? = some a ∧ (R ++ [i])[k + 1]? = some c ∧ (R ++ [i])[k + 2]? = some i ∧ L[a]? = some xa ∧ L[c]? = some xb ∧ jumpR near L (R ++ [i]) = (near xa xb && near xb x) ∧ ∀ s : RS, s.row = R → rowDone s i = { out := updG (updG (updG (updG s.out i 1) a 0) c 0) i 0, jmp := updG s.jmp a true, last := i, row := [] } := by
  by_cases h2 : 2 ≤ R.length
  · right
    obtain ⟨A, a, c, rfl⟩ : ∃ A a c, R = A ++ [a, c] := by
      have hd := List.take_append_drop (R.length - 2) R
      have hl : (R.drop (R.length - 2)).length = 2 := by rw [List.length_drop]; omega
      match hm : R.drop (R.length - 2), hl with
      | [a, c], _ => exact ⟨R.take (R.length - 2), a, c, by rw [hm] at hd; exact hd.symm⟩
    have hdrop : ((A ++ [a, c]) ++ [i]).drop (((A ++ [a, c]) ++ [i]).length - 3) = [a, c, i] := by
      rw [show ((A ++ [a, c]) ++ [i]).length - 3 = A.length by simp, List.append_assoc]
      exact List.drop_left
    obtain ⟨xa, hxa⟩ : ∃ y, L[a]? = some y := ⟨_, List.getElem?_eq_getElem (hlow a (by simp))⟩
    obtain ⟨xb, hxb⟩ : ∃ y, L[c]? = some y := ⟨_, List.getElem?_eq_getElem (hlow c (by simp))⟩
    refine ⟨A.length, a, c, xa, xb, by rw [hsn]; simp, by simp, ?_, ?_, hxa, hxb, ?_, fun s hs => ?_⟩
    · rw [List.append_assoc, List.getElem?_append_right (by omega)]; simp
    · rw [List.append_assoc, List.getElem?_append_right (by omega)]; simp
    · unfold jumpR
      rw [hdrop]
      simp [nearI, hxa, hxb, hx]
    · unfold rowDone
      rw [hs, hdrop]
  · left
    refine ⟨by omega, ?_⟩
    unfold jumpR
    match R, h2 with
    | [], _ => rfl
    | [_], _ => rfl
    | _ :: _ :: _, h => exact absurd (by simp) h
theorem hrow_set {W : World} {b off g o : Nat} {v : Value} {l : List (List Value)} (h : RowsAt W b off 10 l) (hb : b ≠ g) : RowsAt (W.setCell ⟨g, o, none⟩ v) b off 10 l := fun i r hi j hj => by
  rw [← h i r hi j hj]
  unfold World.cell?
  simp only
  rw [setCell_other hb]
def natR (l : List Nat) : List (List Value) := l.map fun (p : Nat) => [Value.int .i64 (p : Int)]
theorem natR_app (l m : List Nat) : natR (l ++ m) = natR l ++ natR m := List.map_append ..
set_option maxRecDepth 100000 in
set_option maxHeartbeats 6400000 in
theorem states_any (v : Value) (L : List Fx) (m0 m1 m2 m3 : Int) (w : World) (hv : FxV w v L) (hn : L.length ≤ 1000) (hok : ∀ p ∈ L, p.ok = true) (hm : 0 ≤ m1 ∧ m1 ≤ 1000000) :
    Calls Try.prog 127 #[v, .agg #[.int .i64 m0, .int .i64 m1, .int .i64 m2, .int .i64 m3]] w fun r w' => (∃ go gj, r = .returned (.tuple #[.slice (some ⟨go, 0, none⟩) L.length L.length, .slice (some ⟨gj, 0, none⟩) L.length L.length]) ∧ RowF w' go 3 L.length (intF (rrunG Fx.t (nearB m1) L L.length).out) ∧ RowF w' gj 4 L.length (boolF (rrunG Fx.t (nearB m1) L L.length).jmp)) ∧ Below w.heap.size w w' := by
  obtain ⟨pa, pc, rfl, hpd⟩ := hv.opens
  obtain ⟨n, hnn⟩ : ∃ n, n = L.length := ⟨_, rfl⟩
  rw [← hnn] at hn ⊢
  have HN := hid hnn
  have HPD := hid hpd
  have HOK := hid hok
  clear hnn hpd hv hok
  obtain ⟨i0, hinf, hz0, hz1, hz2⟩ := info_parts info3s
  have HI := hid hinf
  have HZ0 := hid hz0
  have HZ1 := hid hz1
  have HZ2 := hid hz2
  clear hinf hz0 hz1 hz2
  go_enter Try.func127, Try.ntmps127
  go_upto_region 1 with fail
  refine gen_world (fun W0 hW0 => ?_)
  have HM0 := hid (show W0.heap[w.heap.size]? = some (.cells #[.int .i64 m0, .int .i64 m1, .int .i64 m2, .int .i64 m3] 61) by rw [hW0]; exact heap_alloc_at _ _ _ rfl)
  have HB0 := hid (show Below w.heap.size w W0 by rw [hW0]; exact (Below.refl _ _).alloc (Nat.le_refl _) _)
  clear hW0
  have hs0 : w.heap.size < W0.heap.size := (Array.getElem?_eq_some_iff.1 HM0.out).1
  refine states_make _ _ _ _ _ _ _ _ _ _ _ _ _ _ _ _ _ _ _ _ _ _ _ _ _ _ _ _ _ _ _ _ _ _ _ _ _ _ _ _ _ _ _ _ _ _ _ _ _ _ _ _ _ _ _ _ _ _ _ _ _ _ _ _ _ _ _ _ _ _ _ _ _ _ _ _ _ _ _ _ _ _ _ _ _ _ _ _ _ _ _ _ _ _ _ _ _ _ _ _ _ _ _ _ _ _ _ _ _ _ _ _ _ _ _ _ _ _ _ _ _ _ _ _ _ _ _ _ _ _ _ _ _ _ _ _ _ _ _ _ _ _ _ _ _ _ _ _ _ _ _ W0 n pc pa _ _ (by kernel_rfl) (by omega) (hid (fun u14 u15 u16 u17 u18 u19 go gj W1 hgo hgj hro hrj hb1 => ?_))
  have HRO := hid hro
  have HRJ := hid hrj
  have HB1W := hid hb1
  have HB1 := hid (HB0.out.trans (hb1.mono HB0.out.size))
  have HM1 := hid (heap_still hb1 HM0.out)
  have hs1 := hb1.size
  have hgol := hro.lt
  clear hro hrj hb1
  have HBX9 := hid HB1W.out
  go_wp2_with fail
  go_loopw [8, 9, 23] (fun lv rv iv W => ∃ i : Nat, i ≤ n ∧ iv = .int .i64 (i : Int) ∧ lv = .int .i64 (rrunG Fx.t (nearB m1) L i).last ∧ RowF W go 3 n (intF (rrunG Fx.t (nearB m1) L i).out) ∧ RowF W gj 4 n (boolF (rrunG Fx.t (nearB m1) L i).jmp) ∧ OwnR W W0.heap.size 3 1 rv (natR (rrunG Fx.t (nearB m1) L i).row) ∧ rv.ownBlock ≠ some go ∧ (rrunG Fx.t (nearB m1) L i).row.length ≤ i ∧ Below W0.heap.size W0 W) (fun _ _ iv _ => n - (intOf iv).toNat)
  case atStart =>
    refine ⟨0, by omega, rfl, rfl, HRO.out.grow ((Below.refl _ _).alloc (Nat.le_refl _) _), HRJ.out.grow ((Below.refl _ _).alloc (Nat.le_refl _) _), ⟨Wide.nil 1, rfl, Or.inr ⟨_, 0, #[], rfl, hs1, (by repeat' (first | (refine heap_alloc_at _ _ _ ?_; (first | rfl | (simp; done) | (simp; omega))) | (refine heap_alloc_past _ _ _ _ ?_))), Nat.le_refl _, by unfold maxLen; omega, rfl, rfl⟩⟩, ?_, Nat.le_refl _, ?_⟩
    · intro e
      have h9 : some W1.heap.size = some go := e
      injection h9 with h9
      omega
    · exact HBX9.out.alloc hs1 _
  case round =>
    obtain ⟨i, hi, rfl, rfl, hfo, hfj, hrw, hap, hrl, hB⟩ := hrel
    have HFO := hid hfo
    have HFJ := hid hfj
    have HRW := hid hrw
    have HB := hid hB
    have hzw := hB.size
    obtain ⟨ra, rc, hrv⟩ := OwnR.slice hrw
    obtain ⟨rn, hrn⟩ : ∃ rn, rn = (natR (rrunG Fx.t (nearB m1) L i).row).length := ⟨_, rfl⟩
    rw [← hrn] at hrv
    subst hrv
    have HRN := hid (show rn = (rrunG Fx.t (nearB m1) L i).row.length by rw [hrn]; unfold natR; rw [List.length_map])
    have hrnb : rn ≤ i := by rw [HRN.out]; exact hrl
    clear hfo hfj hrw hB hrl hrn
    by_cases hlt : i < n
    · have e3 : decide ((i : Int) < (n : Int)) = true := decide_eq_true (by omega)
      obtain ⟨x, hx⟩ : ∃ x, L[i]? = some x := ⟨_, List.getElem?_eq_getElem (by rw [← HN.out]; exact hlt)⟩
      obtain ⟨b, off, ha, hbl, hrow⟩ := HPD.out i x hx
      subst ha
      have HROW := hid ((hrow.still HB0.out hbl).still HB.out (by omega))
      have HBES := hid (beside_run (t := Fx.t) (near := nearB m1) (L := L) i (by rw [← HN.out]; exact hi))
      have HSTEP := hid (show rrunG Fx.t (nearB m1) L (i + 1) = rstepG Fx.t (nearB m1) L (rrunG Fx.t (nearB m1) L i) i from rfl)
      obtain ⟨s, hs⟩ : ∃ s, s = rrunG Fx.t (nearB m1) L i := ⟨_, rfl⟩
      rw [← hs] at HFO HFJ HRW HRN HBES HSTEP ⊢
      have HX := hid hx
      have HAP := hid hap
      clear hrow hx hs hap
      go_upto_region 6 with fail
      refine states_twice _ _ _ _ _ _ _ _ _ _ _ _ _ _ _ _ _ _ _ _ _ _ _ _ _ _ _ _ _ _ _ _ _ _ _ _ _ _ _ _ _ _ _ _ _ _ _ _ _ _ _ _ _ _ _ _ _ _ _ _ _ _ _ _ _ _ _ _ _ _ _ _ _ _ _ _ _ _ _ _ _ _ _ _ _ _ _ _ _ _ _ _ _ _ _ _ _ _ _ _ _ _ _ _ _ _ _ _ _ _ _ _ _ _ _ _ _ _ _ _ _ _ _ _ _ _ _ _ _ _ _ _ _ _ _ _ _ _ _ _ _ _ _ _ _ _ _ _ _ _ wr b off n pc i x L _ _ (by kernel_rfl) HROW.out HX.out HN.out (by omega) hlt (hid (fun u26 u27 u28 u29 u30 u31 u32 u33 u34 u35 u36 u37 u38 u39 u40 u41 u42 u43 u44 u45 u46 u47 u48 u49 u50 u51 u52 u53 u54 u55 u56 u57 u58 u59 u60 u61 V hV => ?_))
      have HFOV := hid (HFO.out.grow hV)
      have HFJV := hid (HFJ.out.grow hV)
      have HRWV := hid (HRW.out.grow hV)
      have HBV := hid (HB.out.trans (hV.mono hzw))
      have HROWV := hid (HROW.out.still hV (by have h1 := HB0.out.size; omega))
      have HMV := hid (heap_still HBV.out HM0.out)
      have hzv := hV.size
      clear hV HFO HFJ HRW HROW
      cases htw : twiceG Fx.t L i with
      | true =>
        have z1 : V.frozen? ⟨go, i, none⟩ = false := HFOV.out.frozen
        have z0 : V.cell? ⟨go, i, none⟩ = some (intF s.out i) := HFOV.out.cell hlt
        have HNX := hid (show rrunG Fx.t (nearB m1) L (i + 1) = { s with out := updG s.out i 2 } by rw [HSTEP.out]; unfold rstepG; rw [if_pos htw])
        clear htw
        go_wp2_with fail
        refine ⟨⟨i + 1, by omega, by go_num, ?_⟩, by simp [intOf]; omega⟩
        rw [HNX.out]
        exact ⟨rfl, (HFOV.out.set i (.int .i64 2)).ext (upd_int _ _ _), HFJV.out.same (setCell_other (fun e => (HFOV.out.apart HFJV.out (by decide)) e.symm)), OwnR.same HRWV.out (fun k e => setCell_other (fun e2 => HAP.out (by rw [← e2]; exact e))), HAP.out, by show s.row.length ≤ i + 1; rw [← HRN.out]; omega, HBV.out.setCell (p := ⟨go, i, none⟩) hgo _⟩
      | false =>
        have hkey : ∃ kq : Bool, (kq = true ↔ (s.last < 0 ∨ nearI (nearB m1) L s.last.toNat i = true)) ∧ ((s.last = -1 ∧ kq = true) ∨ ∃ (j : Nat) (y : Fx), s.last = (j : Int) ∧ L[j]? = some y ∧ kq = nearB m1 y x) := by
          rcases HBES.out.last with ⟨h1, _⟩ | ⟨j, y, h1, h2, _⟩
          · exact ⟨true, ⟨fun _ => .inl (by omega), fun _ => rfl⟩, .inl ⟨h1, rfl⟩⟩
          · refine ⟨nearB m1 y x, ?_, .inr ⟨j, y, h1, h2, rfl⟩⟩
            rw [h1]
            have e : ((j : Int)).toNat = j := by simp
            simp only [nearI, e, h2, HX.out]
            exact ⟨.inr, fun h => h.elim (fun h => by omega) id⟩
        obtain ⟨kq, hkt, hkq⟩ := hkey
        have HTW := hid htw
        have HKT := hid hkt
        clear htw hkt
        go_upto_region 8 with fail
        refine states_keep _ _ _ _ _ _ _ _ _ _ _ _ _ _ _ _ _ _ _ _ _ _ _ _ _ _ _ _ _ _ _ _ _ _ _ _ _ _ _ _ _ _ _ _ _ _ _ _ _ _ _ _ _ _ _ _ _ _ _ _ _ _ _ _ _ _ _ _ _ _ _ _ _ _ _ _ _ _ _ _ _ _ _ _ _ _ _ _ _ _ _ _ _ _ _ _ _ _ _ _ _ _ _ _ _ _ _ _ _ _ _ _ _ _ _ _ _ _ _ _ _ _ _ _ _ _ _ _ _ _ _ _ _ _ _ _ _ _ _ _ _ _ _ _ _ _ _ _ V b off n pc i w.heap.size s.last m0 m1 m2 m3 kq x L _ _ (by kernel_rfl) HROWV.out HMV.out HX.out HN.out hlt HOK.out hm hkq (hid (fun u66 u67 u68 u69 u70 u71 u72 u73 u74 u75 u76 u77 u78 V2 hV2 => ?_))
        have HFO2 := hid (HFOV.out.grow hV2)
        have HFJ2 := hid (HFJV.out.grow hV2)
        have HRW2 := hid (HRWV.out.grow hV2)
        have HB2 := hid (HBV.out.trans (hV2.mono HBV.out.size))
        have HROW2 := hid (HROWV.out.still hV2 (by have h1 := HB0.out.size; omega))
        have HM2 := hid (heap_still hV2 HMV.out)
        have hzv2 := hV2.size
        clear hV2 HFOV HFJV HRWV HROWV HMV HBV hkq
        cases kq with
        | true =>
          have HNX := hid (show rrunG Fx.t (nearB m1) L (i + 1) = { s with last := i, row := [] } by rw [HSTEP.out]; unfold rstepG; rw [if_neg (by rw [HTW.out]; decide), if_pos (HKT.out.1 rfl)])
          go_wp2_with fail
          refine ⟨⟨i + 1, by omega, by go_num, ?_⟩, by simp [intOf]; omega⟩
          rw [HNX.out]
          exact ⟨rfl, HFO2.out, HFJ2.out, OwnR.nil _ _ _ _, by simp [Value.ownBlock], Nat.zero_le _, HB2.out⟩
        | false =>
          have z1 : V2.frozen? ⟨go, i, none⟩ = false := HFO2.out.frozen
          have z0 : V2.cell? ⟨go, i, none⟩ = some (intF s.out i) := HFO2.out.cell hlt
          have hgo2 : go < V2.heap.size := HFO2.out.lt
          -- put aside
          have HF1 := hid ((HFO2.out.set i (.int .i64 1)).ext (upd_int _ _ _))
          have HJ1 := hid (show RowF (V2.setCell ⟨go, i, none⟩ (.int .i64 1)) gj 4 n (boolF s.jmp) from HFJ2.out.same (setCell_other (fun e => (HFO2.out.apart HFJ2.out (by decide)) e.symm)))
          have HR1 := hid (show OwnR (V2.setCell ⟨go, i, none⟩ (.int .i64 1)) W0.heap.size 3 1 (.slice ra rn rc) (natR s.row) from OwnR.same HRW2.out (fun k e => setCell_other (fun e2 => HAP.out (by rw [← e2]; exact e))))
          have HBB := hid (show Below W0.heap.size W0 (V2.setCell ⟨go, i, none⟩ (.int .i64 1)) from HB2.out.setCell (p := ⟨go, i, none⟩) hgo _)
          have HRO1 := hid (show RowsAt (V2.setCell ⟨go, i, none⟩ (.int .i64 1)) b off 10 (L.map Fx.row) from (hrow_set HROW2.out (by omega)))
          have HMM := hid (show (V2.setCell ⟨go, i, none⟩ (.int .i64 1)).heap[w.heap.size]? = some (.cells #[.int .i64 m0, .int .i64 m1, .int .i64 m2, .int .i64 m3] 61) from (setCell_other (by omega)).trans HM2.out)
          have hsz1 : (V2.setCell ⟨go, i, none⟩ (.int .i64 1)).heap.size = V2.heap.size := by simp
          have HK1 := hid (show (natR s.row).length + [[Value.int .i64 (i : Int)]].length ≤ maxLen by unfold natR; rw [List.length_map, ← HRN.out]; show rn + 1 ≤ _; unfold maxLen; omega)
          have HK2 := hid (show ((natR s.row).length + [[Value.int .i64 (i : Int)]].length) * 8 ≤ 140737488355328 by unfold natR; rw [List.length_map, ← HRN.out]; show (rn + 1) * 8 ≤ _; omega)
          have HK3 := hid (show W0.heap.size ≤ ((V2.setCell ⟨go, i, none⟩ (.int .i64 1)).alloc (.cells #[.int .i64 (i : Int)] 3)).heap.size by simp; have h1 := HB2.out.size; omega)
          have HGB := hid (fun (k : Nat) (o : Obj) (h : (V2.setCell ⟨go, i, none⟩ (.int .i64 1)).heap[k]? = some o) => heap_still ((Below.refl (V2.setCell ⟨go, i, none⟩ (.int .i64 1)).heap.size (V2.setCell ⟨go, i, none⟩ (.int .i64 1))).alloc (Nat.le_refl _) (.cells #[.int .i64 (i : Int)] 3)) h)
          go_wp2_with (first | (at_builtin; go_loud (refine wpList_append_rowsR rfl (.tmp 84) (.tmp 86) 31 rfl W0.heap.size 3 i0 _ 1 8 Try.underlying31 HI.out HZ0.out HZ1.out HZ2.out rfl (by decide) (.slice ra rn rc) (natR s.row) [[.int .i64 (i : Int)]] rfl (OwnR.grow HR1.out ((Below.refl _ _).alloc (Nat.le_refl _) _)) V2.heap.size 0 1 1 rfl rfl (rows_int1 (heap_alloc_at _ _ _ hsz1.symm)) wide_int1 HK1.out HK2.out HK3.out ?_; intro v6 w6 ho6 hg6 hz6; obtain ⟨sa, sc, hsa⟩ := OwnR.slice ho6; obtain ⟨sn, hsn⟩ : ∃ sn, sn = (natR s.row ++ [[Value.int .i64 (i : Int)]]).length := ⟨_, rfl⟩; rw [← hsn] at hsa; subst hsa; have HSN := hid hsn; have HO6 := hid ho6; have HG6 := hid hg6; have HZ6 := hid hz6; clear ho6 hg6 hz6 hsn))) 
          have HSN2 := hid (show sn = s.row.length + 1 by rw [HSN.out]; unfold natR; simp)
          have HO7 := hid (show OwnR w6 W0.heap.size 3 1 (Value.slice sa sn sc) ((s.row ++ [i]).map fun (p : Nat) => [Value.int .i64 (p : Int)]) from by have h9 := HO6.out; rwa [show natR s.row ++ [[Value.int .i64 (i : Int)]] = natR (s.row ++ [i]) from (natR_app s.row [i]).symm] at h9)
          have HAQ := hid (fun (k : Nat) (o : Obj) (h : (V2.setCell ⟨go, i, none⟩ (.int .i64 1)).heap[k]? = some o) (hne : some k ≠ (Value.slice ra rn rc).ownBlock) => (HG6.out.block k (Array.getElem?_eq_some_iff.1 (HGB.out k o h)).1 hne).trans (HGB.out k o h))
          have HF6 := hid (HF1.out.via (W' := w6) (fun C h => HAQ.out go _ h (fun e => HAP.out e.symm)))
          have HJ6 := hid (HJ1.out.via (W' := w6) (fun C h => HAQ.out gj _ h (fun e => HJ1.out.not_own HR1.out (by decide) e.symm)))
          have HB6 := hid (show Below W0.heap.size W0 w6 from (HBB.out.alloc (by rw [hsz1]; have h1 := HB2.out.size; omega) _).grown HG6.out HK3.out (fun k hk => OwnR.ownBlock HRW2.out k hk))
          have HM6 := hid (HAQ.out w.heap.size _ HMM.out (fun e => by have h1 := OwnR.ownBlock HRW2.out _ e.symm; omega))
          have HRO6 := hid (show RowsAt w6 b off 10 (L.map Fx.row) from Rows_via HRO1.out (fun o h => HAQ.out b o h (fun e => by have h1 := OwnR.ownBlock HRW2.out _ e.symm; have h2 := HB0.out.size; omega)) (fun r hr => by obtain ⟨f, _, rfl⟩ := List.mem_map.1 hr; rfl))
          have HAP6 := hid (show (Value.slice sa sn sc).ownBlock ≠ some go from fun e => by
            rcases HZ6.out with h1 | h1
            · exact HAP.out (h1.symm.trans e)
            · have h2 := h1.symm.trans e
              injection h2 with h2
              simp at h2
              omega)
          have hsn3 : sn ≤ 1000 := by have h1 := HSN2.out; have h2 := HRN.out; omega
          have HLOW := hid (show ∀ p ∈ s.row, p < L.length from fun p hp => by have h1 := (HBES.out.low p hp).1; have h2 := HN.out; omega)
          obtain ⟨jq, hjq⟩ : ∃ jq, jq = jumpR (nearB m1) L (s.row ++ [i]) := ⟨_, rfl⟩
          have HKF := hid (show ¬(s.last < 0 ∨ nearI (nearB m1) L s.last.toNat i = true) from fun h => Bool.false_ne_true (HKT.out.2 h))
          have HJM := hid (jump_of (near := nearB m1) (L := L) HSN2.out HX.out HLOW.out)
          have HJP := hid (show (sn < 3 ∧ jq = false) ∨ ∃ (k a c : Nat) (xa xb : Fx), sn = k + 3 ∧ (s.row ++ [i])[k]? = some a ∧ (s.row ++ [i])[k + 1]? = some c ∧ L[a]? = some xa ∧ L[c]? = some xb ∧ jq = (nearB m1 xa xb && nearB m1 xb x) from by
            rcases HJM.out with ⟨h1, h2⟩ | ⟨k, a, c, xa, xb, h1, h2, h3, _, h4, h5, h6, _⟩
            · exact .inl ⟨h1, by rw [hjq, h2]⟩
            · exact .inr ⟨k, a, c, xa, xb, h1, h2, h3, h4, h5, by rw [hjq, h6]⟩)
          have HJQ := hid hjq
          clear hjq HKT HFO2 HFJ2 HRW2 HROW2 HM2 HF1 HJ1 HR1 HRO1 HMM HGB HG6 HAQ HZ6 HO6 HSN z1 z0
          refine states_jump _ _ _ _ _ _ _ _ _ _ _ _ _ _ _ _ _ _ _ _ _ _ _ _ _ _ _ _ _ _ _ _ _ _ _ _ _ _ _ _ _ _ _ _ _ _ _ _ _ _ _ _ _ _ _ _ _ _ _ _ _ _ _ _ _ _ _ _ _ _ _ _ _ _ _ _ _ _ _ _ _ _ _ _ _ _ _ _ _ _ _ _ _ _ _ _ _ _ _ _ _ _ _ _ _ _ _ _ _ _ _ _ _ _ _ _ _ _ _ _ _ _ _ _ _ _ _ _ _ _ _ _ _ _ _ _ _ _ _ _ _ _ _ _ _ _ _ w6 W0.heap.size b off n pc i w.heap.size sn sc sa m0 m1 m2 m3 jq x L (s.row ++ [i]) _ _ (by kernel_rfl) HRO6.out HM6.out HO7.out HX.out HN.out hlt hsn3 HOK.out hm HJP.out (hid (fun u90 u91 u92 u93 u94 u95 u96 u97 u98 u99 u100 u101 u102 u103 u104 u105 u106 u107 u108 u109 u110 u111 u112 u113 u114 u115 u116 u117 u118 u119 u120 u121 u122 u123 u124 u125 u126 V7 hV7 => ?_))
          have HF7 := hid (HF6.out.grow hV7)
          have HJ7 := hid (HJ6.out.grow hV7)
          have HO8 := hid (HO7.out.grow hV7)
          have HB7 := hid (HB6.out.trans (hV7.mono HB6.out.size))
          clear hV7 HF6 HJ6 HO7 HB6 HRO6 HM6 HJP
          cases jq with
          | false =>
            have HNX := hid (show rrunG Fx.t (nearB m1) L (i + 1) = { s with out := updG s.out i 1, row := s.row ++ [i] } by rw [HSTEP.out]; unfold rstepG; rw [if_neg (by rw [HTW.out]; decide), if_neg HKF.out, if_neg (by rw [← HJQ.out]; decide)])
            go_wp2_with fail
            refine ⟨⟨i + 1, by omega, by go_num, ?_⟩, by simp [intOf]; omega⟩
            rw [HNX.out]
            exact ⟨rfl, HF7.out, HJ7.out, HO8.out, HAP6.out, by show (s.row ++ [i]).length ≤ i + 1; have h1 := HRN.out; simp; omega, HB7.out⟩
          | true =>
            rcases HJM.out with ⟨_, h2⟩ | ⟨k, a, c, xa, xb, h1, h2, h3, h4, h5, h6, _, h7⟩
            · exact absurd (HJQ.out.trans h2) (by decide)
            have HNX := hid (show rrunG Fx.t (nearB m1) L (i + 1) = { out := updG (updG (updG (updG s.out i 1) a 0) c 0) i 0, jmp := updG s.jmp a true, last := i, row := [] } by rw [HSTEP.out]; unfold rstepG; rw [if_neg (by rw [HTW.out]; decide), if_neg HKF.out, if_pos HJQ.out.symm]; exact h7 s rfl)
            have han : a < n := by have h9 := (List.getElem?_eq_some_iff.1 h5).1; have h8 := HN.out; omega
            have hcn : c < n := by have h9 := (List.getElem?_eq_some_iff.1 h6).1; have h8 := HN.out; omega
            have HH1 := hid h1
            have HH2 := hid h2
            have HH3 := hid h3
            have HH4 := hid h4
            clear h1 h2 h3 h4 h5 h6 h7
            go_upto_if 127 with fail
            refine wp_cond_true rfl ?_
            refine states_move _ _ _ _ _ _ _ _ _ _ _ _ _ _ _ _ _ _ _ _ _ _ _ _ _ _ _ _ _ _ _ _ _ _ _ _ _ _ _ _ _ _ _ _ _ _ _ _ _ _ _ _ _ _ _ _ _ _ _ _ _ _ _ _ _ _ _ _ _ _ _ _ _ _ _ _ _ _ _ _ _ _ _ _ _ _ _ _ _ _ _ _ _ _ _ _ _ _ _ _ _ _ _ _ _ _ _ _ _ _ _ _ _ _ _ _ _ _ _ _ _ _ _ _ _ _ _ _ _ _ _ _ _ _ _ _ _ _ _ _ _ _ _ _ _ _ _ V7 W0.heap.size go gj n i sn sc k a c i sa (intF (updG s.out i 1)) (boolF s.jmp) (s.row ++ [i]) _ _ (by kernel_rfl) hsn3 (by omega) (by omega) HF7.out HJ7.out HO8.out HAP6.out HH1.out HH2.out HH3.out HH4.out han hcn hlt (hid (fun u13 u128 u129 u130 u131 u132 u133 u134 u135 u136 u137 u138 u139 u140 u141 u142 u143 u144 u145 u146 u147 u148 V8 hf8 hj8 hb8 hz8 => ?_))
            have HF8 := hid hf8
            have HJ8 := hid hj8
            have HB8 := hid (HB7.out.trans hb8)
            clear hf8 hj8 hb8 HF7 HJ7 HO8 HB7 HH1 HH2 HH3 HH4
            go_wp2_with fail
            refine ⟨⟨i + 1, by omega, by go_num, ?_⟩, by simp [intOf]; omega⟩
            rw [HNX.out]
            exact ⟨rfl, by rw [← updN_int]; exact HF8.out, HJ8.out.ext (upd_bool _ _ _), OwnR.nil _ _ _ _, by simp [Value.ownBlock], Nat.zero_le _, HB8.out⟩
    · have e3 : decide ((i : Int) < (n : Int)) = false := decide_eq_false (by omega)
      have hin : i = n := by omega
      have HFN := hid (show RowF wr go 3 n (intF (rrunG Fx.t (nearB m1) L n).out) from hin ▸ HFO.out)
      have HJN := hid (show RowF wr gj 4 n (boolF (rrunG Fx.t (nearB m1) L n).jmp) from hin ▸ HFJ.out)
      have HBN := hid (show Below w.heap.size w wr from HB0.out.trans (HB.out.mono HB0.out.size))
      clear hin HFO HFJ HRW HB
      go_wp2_with fail
      go_ret2
      exact ⟨⟨go, gj, rfl, HFN.out, HJN.out⟩, HBN.out⟩
end Go.Proofs.Yteoikaedpgianaa
