/- TrackOrder (19): the law's walk. (Printed by wip/gen_orde.py.) -/
import Derived.Test.YteoikaedpgianaaQOrdC
namespace Go.Proofs.Yteoikaedpgianaa
open Go.ChangeShapes Go.WideShapes Go.ChangeAt Go.RowKit Go.Sort Go.Lib Go.Shelf Go.Proofs

/-- two elements of a list change places -/
def swL {α : Type} (l : List α) (i j : Nat) : List α := match l[i]?, l[j]? with | some x, some y => (l.set i y).set j x | _, _ => l
theorem swL_some {α : Type} {l : List α} {i j : Nat} {x y : α} (hi : l[i]? = some x) (hj : l[j]? = some y) : swL l i j = (l.set i y).set j x := by
  unfold swL
  rw [hi, hj]
theorem swL_perm {α : Type} [Inhabited α] (l : List α) (i j : Nat) : (swL l i j).Perm l := by
  unfold swL
  split
  · rename_i x y hx hy
    obtain ⟨hi, ei⟩ := List.getElem?_eq_some_iff.1 hx
    obtain ⟨hj, ej⟩ := List.getElem?_eq_some_iff.1 hy
    have h := Go.Sort.swp_permIn l.toArray 0 l.toArray.size i j (Nat.zero_le _) (by simpa using hi) (Nat.zero_le _) (by simpa using hj) (Nat.le_refl _)
    have h2 := perm_list h
    have e : (Go.Sort.swp l.toArray i j).toList = (l.set i y).set j x := by
      unfold Go.Sort.swp
      rw [getElem!_pos l.toArray i (by simpa using hi), getElem!_pos l.toArray j (by simpa using hj)]
      simp [ei, ej]
    rw [e] at h2
    exact h2
  · exact List.Perm.refl _
/-- append of a slice that lies somewhere, or of an empty or nil one, to rows of the call's own -/
theorem wpList_append_rowsV {P : Program} {W : World} {ops : Array Oper} {rest : List Oper} {o : Oper} {a : Act} {Q : Exit → Act → World → Prop} (hgd : o.guard = none) (s x : Operand) (ty : TypeId)
    (ho : o.op = .call { callee := .builtin .append, args := #[s, x], argTypes := #[ty, ty] }) (base e : TypeId) (i : TypeInfo) (z : Value) (size bytes : Nat) (ht : P.underlying ty = some (.slice e)) (hi : P.info? e = some i) (hz : i.zero = some z)
    (hsize : i.size = size) (hby : i.bytes = bytes) (hzs : z.cells.size = size) (hsz : 0 < size) (v : Value) (l m : List (List Value)) (hs : a.eval s = v) (hown : OwnR W base e size v l)
    (ao : Option Addr) (n c : Nat) (hn : n = m.length) (hx : a.eval x = .slice ao n c) (hm : (m = [] ∧ (ao = none → c = 0)) ∨ ∃ b off, ao = some ⟨b, off, none⟩ ∧ RowsAt W b off size m) (hw : Wide size m)
    (h63 : l.length + m.length ≤ maxLen) (hbytes : (l.length + m.length) * bytes ≤ 140737488355328) (hbase : base ≤ W.heap.size)
    (h : ∀ v' w', OwnR w' base e size v' (l ++ m) → W.grownBy w' v.ownBlock → (v'.ownBlock = v.ownBlock ∨ v'.ownBlock = some W.heap.size) → wpList P ops Q rest (a.put o.dst v') w') : wpList P ops Q (o :: rest) a W := by
  rcases hm with ⟨rfl, hc⟩ | ⟨b, off, rfl, hr⟩
  · obtain rfl : n = 0 := hn
    cases ao with
    | none =>
      obtain rfl := hc rfl
      refine wpList_plain hgd fun K hK' => ?_
      have hrun := run_append_owned_none (P := P) W base ty o.type e i size ht hi _ l.length l.flatten hown.2
      unfold Oper.wp
      simp [execOp, ho, resolve, invoke, builtin, hs, hx, hrun, Result.andThen]
      exact hK' _ _ (h v W (by simpa using hown) (World.grownBy.refl _ _) (Or.inl rfl))
    | some ad =>
      refine wpList_append_own_at W hgd s x ty ho base e i z size bytes ht hi hz hsize hby hzs hsz v l.length l.flatten hs hown.2 ad 0 c [] hx (by simp) (fun j u h => by simp at h) (fun u h => by simp at h) (by simpa using h63) (by simpa using hbytes) hbase ?_
      intro v' w' h1 h2 _ h4
      exact h v' w' ⟨by simpa using hown.1, by simpa using h1⟩ h2 h4
  · exact wpList_append_rowsR hgd s x ty ho base e i z size bytes ht hi hz hsize hby hzs hsz v l m hs hown b off n c hn hx hr hw h63 hbytes hbase h

/-- a slice of integers -/
def IntsV (W : World) (v : Value) (l : List Int) : Prop := ∃ a c, v = .slice a l.length c ∧ (l = [] ∨ ∃ b off, a = some ⟨b, off, none⟩ ∧ b < W.heap.size ∧ ∀ (i : Nat) (z : Int), l[i]? = some z → W.cell? ⟨b, off + i, none⟩ = some (.int .i64 z))
theorem rfixL (x : Fx) (W : World) : Calls Try.prog 38 #[.agg x.row.toArray] W fun r w' => r = .returned (.bool x.ok) ∧ Below W.heap.size W w' := rFix_any x.t x.x x.y x.z x.e x.a x.b x.c x.d x.g W
set_option maxRecDepth 100000 in
set_option maxHeartbeats 6400000 in
theorem trackorder_law (pv ov : Value) (xs : List Fx) (zs : List Int) (m0 m1 m2 m3 : Int) (w : World) (hv : FxV w pv xs) (ho : IntsV w ov zs) (hnS : xs.length ≤ 9223372036854775807) (hnz : zs.length ≤ 9223372036854775807) :
    Calls Try.prog 19 #[pv, ov, .agg #[.int .i64 m0, .int .i64 m1, .int .i64 m2, .int .i64 m3]] w fun r w' => r = .returned (.bool true) ∧ Below w.heap.size w w' := by
  obtain ⟨pa, pc, rfl, hpd⟩ := hv.opens
  obtain ⟨oa, oc, rfl, hod⟩ := ho
  obtain ⟨n, hn⟩ : ∃ n, n = xs.length := ⟨_, rfl⟩
  obtain ⟨m, hm⟩ : ∃ m, m = zs.length := ⟨_, rfl⟩
  rw [← hn] at hnS hv ⊢
  rw [← hm] at hnz ⊢
  have HN := hid hn
  have HM := hid hm
  have HNS := hid hnS
  have HNZ := hid hnz
  clear hnS hnz
  have HV := hid hv
  have HPD := hid hpd
  have HOD := hid hod
  clear hn hm hv hpd hod
  by_cases h30 : 30 < n
  · have d1 : decide ((30 : Int) < (n : Int)) = true := decide_eq_true (by omega)
    go_enter Try.func19, Try.ntmps19
    go_wp2_with fail
    refine (awake_any _).mono ?_
    rintro r w9 ⟨rfl, hb⟩
    have HB9 := hid (show Below w.heap.size w w9 from ((Below.refl _ _).alloc (Nat.le_refl _) _ : Below w.heap.size w (w.alloc _)).trans (hb.mono ((Below.refl _ _).alloc (Nat.le_refl _) _ : Below w.heap.size w (w.alloc _)).size))
    clear hb
    go_wp2_with fail
    go_ret
    exact ⟨rfl, HB9.out⟩
  have d1 : decide ((30 : Int) < (n : Int)) = false := decide_eq_false (by omega)
  by_cases h31 : 30 < m
  · have d2 : decide ((30 : Int) < (m : Int)) = true := decide_eq_true (by omega)
    go_enter Try.func19, Try.ntmps19
    go_wp2_with fail
    refine (awake_any _).mono ?_
    rintro r w9 ⟨rfl, hb⟩
    have HB9 := hid (show Below w.heap.size w w9 from ((Below.refl _ _).alloc (Nat.le_refl _) _ : Below w.heap.size w (w.alloc _)).trans (hb.mono ((Below.refl _ _).alloc (Nat.le_refl _) _ : Below w.heap.size w (w.alloc _)).size))
    clear hb
    go_wp2_with fail
    go_ret
    exact ⟨rfl, HB9.out⟩
  have d2 : decide ((30 : Int) < (m : Int)) = false := decide_eq_false (by omega)
  go_enter Try.func19, Try.ntmps19
  go_wp2_with fail
  refine (rRules_any m0 m1 m2 m3 _).mono ?_
  rintro r w1 ⟨rfl, hb1⟩
  have HM1 := hid (heap_still hb1 (heap_alloc_at w (.cells #[.int .i64 m0, .int .i64 m1, .int .i64 m2, .int .i64 m3] 61) w.heap.size rfl))
  have HB1 := hid (((Below.refl w.heap.size w).alloc (Nat.le_refl _) (.cells #[.int .i64 m0, .int .i64 m1, .int .i64 m2, .int .i64 m3] 61)).trans (hb1.mono (by simp)))
  have hs1 : w.heap.size < w1.heap.size := (Array.getElem?_eq_some_iff.1 HM1.out).1
  clear hb1
  cases hr : rulesB m0 m1 m2 m3
  · go_wp2_with fail
    refine (awake_any _).mono ?_
    rintro r w9 ⟨rfl, hb⟩
    have HB9 := hid (show Below w.heap.size w w9 from HB1.out.trans (hb.mono HB1.out.size))
    clear hb
    go_wp2_with fail
    go_ret
    exact ⟨rfl, HB9.out⟩
  have HR := hid hr
  clear hr
  go_wp2_with fail
  go_loopw [50] (fun iv W => ∃ i : Nat, i ≤ n ∧ iv = .int .i64 (i : Int) ∧ (∀ j, j < i → ∀ x, xs[j]? = some x → x.ok = true) ∧ Below w1.heap.size w1 W) (fun iv _ => n - (intOf iv).toNat)
  case atStart => exact ⟨0, by omega, rfl, fun j hj => absurd hj (Nat.not_lt_zero _), Below.refl _ _⟩
  case round =>
    obtain ⟨i, hi, rfl, hok, hB⟩ := hrel
    have HOKI := hid hok
    have HB := hid hB
    clear hok hB
    by_cases hlt : i < n
    · have e3 : decide ((i : Int) < (n : Int)) = true := decide_eq_true (by omega)
      obtain ⟨x, hx⟩ : ∃ x, xs[i]? = some x := ⟨_, List.getElem?_eq_getElem (by rw [← HN.out]; exact hlt)⟩
      obtain ⟨b, off, ha, hbl, hrow⟩ := HPD.out i x hx
      subst ha
      have hc := row_off ((hrow.still HB1.out hbl).still HB.out (by omega)) hx (off + i * 10) rfl
      have HX := hid hx
      clear hx hrow
      go_wp2_with (first | (refine fx_load rfl 55 (.tmp 52) rfl b (off + i * 10) rfl x hc Try.underlying55 rfl size55f ?_) | (refine wpList_store_new rfl 55 (.tmp 8) (.tmp 53) rfl rfl rfl rfl size55f (row_arr x) rfl rfl ?_) | (refine wpList_load_at rfl 55 (.tmp 8) rfl rfl (heap_alloc_at _ _ _ rfl) Try.underlying55 rfl size55f (row_arr x) ?_))
      refine (rfixL x _).mono ?_
      rintro r w2 ⟨rfl, hb2⟩
      have HB2 := hid (HB.out.trans (((Below.refl wr.heap.size wr).alloc (Nat.le_refl _) (.cells x.row.toArray 55)).trans (hb2.mono (by simp)) |>.mono HB.out.size))
      clear hb2 hc
      cases hox : x.ok
      · go_wp2_with fail
        refine (awake_any _).mono ?_
        rintro r w9 ⟨rfl, hb⟩
        have HB9 := hid (show Below w.heap.size w w9 from (HB1.out.trans (HB2.out.mono (Nat.le_of_lt hs1))).trans (hb.mono (HB1.out.trans (HB2.out.mono (Nat.le_of_lt hs1))).size))
        clear hb
        go_wp2_with fail
        go_ret
        exact ⟨rfl, HB9.out⟩
      have HOX := hid hox
      clear hox
      go_wp2_with fail
      refine ⟨⟨i + 1, by omega, by go_num, ?_, HB2.out⟩, by simp [intOf]; omega⟩
      intro j hj y hy
      by_cases hji : j = i
      · subst hji; rw [HX.out] at hy; injection hy with hy; rw [← hy]; exact HOX.out
      · exact HOKI.out j (by omega) y hy
    · have e3 : decide ((i : Int) < (n : Int)) = false := decide_eq_false (by omega)
      have HOK := hid (show ∀ x ∈ xs, x.ok = true from fun x hx => by
        obtain ⟨j, hj⟩ := List.getElem?_of_mem hx
        exact HOKI.out j (by have h9 := (List.getElem?_eq_some_iff.1 hj).1; rw [← HN.out] at h9; omega) x hj)
      clear HOKI
      obtain ⟨wq, hwq⟩ : ∃ wq, wq = wr := ⟨_, rfl⟩
      subst hwq
      have HBq := hid (HB1.out.trans (HB.out.mono (Nat.le_of_lt hs1)))
      have HMq := hid (heap_still HB.out HM1.out)
      have hsq : w.heap.size < wq.heap.size := Nat.lt_of_lt_of_le hs1 HB.out.size
      have HVq := hid (HV.out.still HBq.out)
      clear HB1 HM1 HB
      obtain ⟨i0, hinf, hz0, hz1, hz2⟩ := info_parts info55f
      have HI := hid hinf
      have HZ0 := hid hz0
      have HZ1 := hid hz1
      have HZ2 := hid hz2
      clear hinf hz0 hz1 hz2
      have HO3 := hid (show OwnF (wq.alloc (.cells #[] 55)) wq.heap.size (.slice (some ⟨wq.heap.size, 0, none⟩) 0 0) [] from ⟨Wide.nil 10, rfl, Or.inr ⟨_, 0, #[], rfl, Nat.le_refl _, (by repeat' (first | (refine heap_alloc_at _ _ _ ?_; (first | rfl | (simp; done) | (simp; omega))) | (refine heap_alloc_past _ _ _ _ ?_))), Nat.le_refl _, by unfold maxLen; omega, rfl, rfl⟩⟩)
      have HX3 := hid (show ((xs.map Fx.row = [] ∧ (pa = none → pc = 0)) ∨ ∃ b off, pa = some ⟨b, off, none⟩ ∧ RowsAt (wq.alloc (.cells #[] 55)) b off 10 (xs.map Fx.row)) by
        rcases HVq.out with ⟨h1, h2⟩ | ⟨ad, cap, h1, h2⟩
        · injection h1 with h3 _ h4
          exact Or.inl ⟨by rw [h2]; rfl, fun _ => h4⟩
        · injection h1 with h3 _ h4
          rcases h2 with h2 | ⟨b, off, h5, h6, h7⟩
          · exact Or.inl ⟨by rw [h2]; rfl, fun e => by rw [e] at h3; cases h3⟩
          · exact Or.inr ⟨b, off, by rw [h3, h5], h7.still ((Below.refl _ _).alloc (Nat.le_refl _) _) h6⟩)
      have HLN := hid (show (xs.map Fx.row).length = n by rw [List.length_map]; exact HN.out.symm)
      have HL1 := hid (show ([] : List (List Value)).length + (xs.map Fx.row).length ≤ maxLen by rw [HLN.out]; show 0 + n ≤ maxLen; unfold maxLen; omega)
      have HL2 := hid (show (([] : List (List Value)).length + (xs.map Fx.row).length) * 80 ≤ 140737488355328 by rw [HLN.out]; show (0 + n) * 80 ≤ _; omega)
      have HL3 := hid (show wq.heap.size ≤ (wq.alloc (.cells #[] 55)).heap.size by simp)
      go_wp2_with (first | (at_builtin; go_loud (refine wpList_append_rowsV rfl (.tmp 59) (.tmp 60) 106 rfl wq.heap.size 55 i0 _ 10 80 Try.underlying106 HI.out HZ0.out HZ1.out HZ2.out rfl (by decide) _ [] (xs.map Fx.row) rfl HO3.out pa n pc HLN.out.symm rfl HX3.out (rows_wide xs) HL1.out HL2.out HL3.out ?_; intro v4 w4 hown4 hg4 z5; clear z5; have HO4 := hid (show OwnF w4 wq.heap.size v4 xs from hown4); have HB4 := hid (show Below wq.heap.size wq w4 from (((Below.refl wq.heap.size wq).alloc (Nat.le_refl _) _)).grown hg4 HL3.out (fun k hk => by have e : some wq.heap.size = some k := hk; injection e with e; omega)); clear hown4 hg4)))
      clear HO3 HX3 HLN HL1 HL2 HL3
      go_loopw [9, 64] (fun mv iv W => ∃ (i : Nat) (L : List Fx), i ≤ m ∧ iv = .int .i64 (i : Int) ∧ OwnF W wq.heap.size mv L ∧ (∀ x, x ∈ xs ↔ x ∈ L) ∧ n ≤ L.length ∧ L.length ≤ n + i ∧ Below wq.heap.size wq W) (fun _ iv _ => m - (intOf iv).toNat)
      case atStart => exact ⟨0, xs, by omega, rfl, HO4.out, fun _ => Iff.rfl, by rw [← HN.out]; exact Nat.le_refl _, by rw [← HN.out]; exact Nat.le_refl _, HB4.out⟩
      case round =>
        obtain ⟨k, L, hk, rfl, hoL, hmem, hln, hlk, hB⟩ := hrel
        have HOL := hid hoL
        have HMEM := hid hmem
        have HBW := hid hB
        obtain ⟨ma, mc, hmv⟩ := OwnR.slice hoL
        obtain ⟨N, hN⟩ : ∃ N, N = L.length := ⟨_, rfl⟩
        rw [List.length_map, ← hN] at hmv
        rw [← hN] at hln hlk
        subst hmv
        have HNL := hid hN
        clear hoL hmem hB hN
        by_cases hlt2 : k < m
        · obtain ⟨z, hz⟩ : ∃ z, zs[k]? = some z := ⟨_, List.getElem?_eq_getElem (by rw [← HM.out]; exact hlt2)⟩
          have hzne : zs ≠ [] := fun e => by rw [e] at hz; simp at hz
          obtain ⟨ob, oo, hoa, hob, hoc⟩ := HOD.out.resolve_left hzne
          subst hoa
          have c0 : wr.cell? ⟨ob, oo + k, none⟩ = some (.int .i64 z) := by rw [HBW.out.cell (show ob < wq.heap.size by omega), HBq.out.cell hob]; exact hoc k z hz
          have d5 : decide ((k : Int) < (m : Int)) = true := decide_eq_true (by omega)
          clear hz hzne hoc
          by_cases hn0 : n = 0
          · have d6 : decide ((0 : Int) < (n : Int)) = false := decide_eq_false (by omega)
            have d6n : ¬ 0 < n := by omega
            have H0 := hid hn0
            clear hn0
            go_wp2_with fail
            exact ⟨⟨k + 1, L, by omega, by go_num, HOL.out, HMEM.out, by rw [← HNL.out]; exact hln, by rw [← HNL.out]; omega, HBW.out⟩, by simp [intOf]; omega⟩
          · have d6 : decide ((0 : Int) < (n : Int)) = true := decide_eq_true (by omega)
            have d6n : 0 < n := by omega
            have hnz : (n : Int) ≠ 0 := by omega
            go_upto_region 16 with fail
            obtain ⟨x, hx, hxn⟩ : ∃ x : Nat, (k : Int) % (n : Int) = (x : Int) ∧ x < n := ⟨k % n, by omega, Nat.mod_lt _ (by omega)⟩
            obtain ⟨y, hy, hyn⟩ : ∃ y : Nat, wrap64 ((IntKind.u64.wrap z).tmod (n : Int)) = (y : Int) ∧ y < n := by
              have h0 := wrap_u64_nonneg z
              have h1 := Int.tmod_nonneg (n : Int) h0
              have h2 := Int.tmod_lt_of_pos (IntKind.u64.wrap z) (show (0 : Int) < (n : Int) by omega)
              refine ⟨((IntKind.u64.wrap z).tmod (n : Int)).toNat, ?_, by omega⟩
              generalize (IntKind.u64.wrap z).tmod (n : Int) = t at *
              unfold wrap64
              omega
            rw [hx, hy]
            clear hx hy c0
            obtain ⟨p, hp⟩ : ∃ p, L[x]? = some p := ⟨_, List.getElem?_eq_getElem (by rw [← HNL.out]; omega)⟩
            obtain ⟨q, hq⟩ : ∃ q, L[y]? = some q := ⟨_, List.getElem?_eq_getElem (by rw [← HNL.out]; omega)⟩
            obtain ⟨g, hma, hrw, hgl⟩ := own_at HOL.out hp
            subst hma
            have hperm : ((L.set x q).set y p).Perm L := swL_some hp hq ▸ swL_perm L x y
            have hatp : ((L.set x q).set y p)[y]? = some p := List.getElem?_set_self (by rw [List.length_set, ← HNL.out]; omega)
            have HPERM := hid hperm
            have HATP := hid hatp
            refine order_swap _ _ _ _ _ _ _ _ _ _ _ _ _ _ _ _ _ _ _ _ _ _ _ _ _ _ _ _ _ _ _ _ _ _ _ _ _ _ _ _ _ _ _ _ _ _ _ _ _ _ _ _ _ _ _ _ _ _ _ _ _ _ _ _ _ _ _ _ _ _ _ _ _ _ _ _ _ _ _ _ _ _ _ _ _ _ _ _ _ _ _ _ _ _ _ _ _ _ _ _ _ _ _ _ _ _ _ _ _ _ _ _ _ _ _ _ _ _ _ _ _ _ _ _ _ _ _ _ _ _ _ _ _ _ _ _ _ _ _ _ _ _ _ _ _ _ _ _ _ _ _ _ _ _ _ _ _ _ _ _ _ _ _ _ _ _ _ _ _ _ _ _ _ _ _ _ _ _ _ _ _ _ _ _ _ _ _ _ _ _ _ _ _ _ _ _ _ _ _ _ _ _ _ _ _ _ _ _ _ _ _ _ _ _ _ _ _ _ _ _ _ _ _ _ _ _ wr wq.heap.size g N mc x y p q L _ _ (by kernel_rfl) HOL.out hp hq (hid (fun u83 u84 u85 u86 u87 u88 u89 u90 u91 u92 u93 u94 u95 u96 W5 ho5 hg5 => ?_))
            obtain ⟨L2, hL2⟩ : ∃ L2, L2 = (L.set x q).set y p := ⟨_, rfl⟩
            rw [← hL2] at ho5
            have HP2 := hid (hL2 ▸ HPERM.out)
            have HA2 := hid (hL2 ▸ HATP.out)
            have HO5 := hid ho5
            have HB5 := hid (HBW.out.grown hg5 HBW.out.size (fun k9 hk9 => OwnR.ownBlock HOL.out k9 hk9))
            have hl2 : L2.length = N := by rw [hL2, List.length_set, List.length_set, HNL.out]
            have HL2 := hid hl2
            clear hp hq hrw hgl hperm hatp HPERM HATP hL2 ho5 hg5 hl2
            have hcp := row_of (rows_at HO5.out (by rw [HL2.out]; omega)) HA2.out (y * 10) rfl
            have cp0 : W5.cell? ⟨g, y * 10, none⟩ = some (.int .i64 p.t) := hcp 0 (by decide)
            have cp1 : W5.cell? ⟨g, y * 10 + 1, none⟩ = some (.int .i64 p.x) := hcp 1 (by decide)
            have cp2 : W5.cell? ⟨g, y * 10 + 2, none⟩ = some (.int .i64 p.y) := hcp 2 (by decide)
            have cp3 : W5.cell? ⟨g, y * 10 + 3, none⟩ = some (.int .i64 p.z) := hcp 3 (by decide)
            have cp4 : W5.cell? ⟨g, y * 10 + 4, none⟩ = some (.int .i64 p.e) := hcp 4 (by decide)
            have cp5 : W5.cell? ⟨g, y * 10 + 5, none⟩ = some (.int .i64 p.a) := hcp 5 (by decide)
            have cp6 : W5.cell? ⟨g, y * 10 + 6, none⟩ = some (.int .i64 p.b) := hcp 6 (by decide)
            have cp7 : W5.cell? ⟨g, y * 10 + 7, none⟩ = some (.int .i64 p.c) := hcp 7 (by decide)
            have cp8 : W5.cell? ⟨g, y * 10 + 8, none⟩ = some (.int .i64 p.d) := hcp 8 (by decide)
            have cp9 : W5.cell? ⟨g, y * 10 + 9, none⟩ = some (.int .i64 p.g) := hcp 9 (by decide)
            clear hcp
            have HK1 := hid (show (L2.map Fx.row).length + [p.row].length ≤ maxLen by rw [List.length_map, HL2.out]; show N + 1 ≤ _; unfold maxLen; omega)
            have HK2 := hid (show ((L2.map Fx.row).length + [p.row].length) * 80 ≤ 140737488355328 by rw [List.length_map, HL2.out]; show (N + 1) * 80 ≤ _; omega)
            have HK3 := hid (show wq.heap.size ≤ (W5.alloc (.cells #[.int .i64 p.t, .int .i64 p.x, .int .i64 p.y, .int .i64 p.z, .int .i64 p.e, .int .i64 p.a, .int .i64 p.b, .int .i64 p.c, .int .i64 p.d, .int .i64 p.g] 55)).heap.size by simp; have h1 := HB5.out.size; omega)
            have hyN : y < N := by omega
            go_wp2_with (first | (at_builtin; go_loud (refine wpList_append_rowsR rfl (.tmp 97) (.tmp 102) 106 rfl wq.heap.size 55 i0 _ 10 80 Try.underlying106 HI.out HZ0.out HZ1.out HZ2.out rfl (by decide) (.slice (some ⟨g, 0, none⟩) N mc) (L2.map Fx.row) [p.row] rfl (OwnR.grow HO5.out ((Below.refl W5.heap.size W5).alloc (Nat.le_refl _) (.cells #[.int .i64 p.t, .int .i64 p.x, .int .i64 p.y, .int .i64 p.z, .int .i64 p.e, .int .i64 p.a, .int .i64 p.b, .int .i64 p.c, .int .i64 p.d, .int .i64 p.g] 55))) W5.heap.size 0 1 1 rfl rfl (rows_one (f := p) (heap_alloc_at _ _ _ rfl)) (rows_wide [p]) HK1.out HK2.out HK3.out ?_; intro v6 w6 ho6 hg6 z6; clear z6; have HO6 := hid (show OwnF w6 wq.heap.size v6 (L2 ++ [p]) by unfold OwnF; rw [List.map_append]; exact ho6); have HB6 := hid (show Below wq.heap.size wq w6 from (HB5.out.alloc HB5.out.size _).grown hg6 HK3.out (fun k9 hk9 => OwnR.ownBlock HO5.out k9 hk9)); clear ho6 hg6)))
            refine ⟨⟨k + 1, L2 ++ [p], by omega, by go_num, HO6.out, ?_, by rw [List.length_append, HL2.out, List.length_singleton]; omega, by rw [List.length_append, HL2.out, List.length_singleton]; omega, HB6.out⟩, by simp [intOf]; omega⟩
            intro f
            rw [List.mem_append, List.mem_singleton, HMEM.out, HP2.out.mem_iff]
            constructor
            · exact .inl
            · rintro (h | h)
              · exact h
              · rw [h]; exact HP2.out.mem_iff.1 (List.mem_of_getElem? HA2.out)
        · have d5 : decide ((k : Int) < (m : Int)) = false := decide_eq_false (by omega)
          have HMr := hid (heap_still HBW.out HMq.out)
          have HVr := hid (HVq.out.still HBW.out)
          have HBr := hid (HBq.out.trans (HBW.out.mono (Nat.le_of_lt hsq)))
          go_upto_if 65 with fail
          refine wp_cond_false rfl (wp_exit ?_)
          go_step
          go_step
          go_step
          go_step
          refine order_clean _ _ _ _ _ _ _ _ _ _ _ _ _ _ _ _ _ _ _ _ _ _ _ _ _ _ _ _ _ _ _ _ _ _ _ _ _ _ _ _ _ _ _ _ _ _ _ _ _ _ _ _ _ _ _ _ _ _ _ _ _ _ _ _ _ _ _ _ _ _ _ _ _ _ _ _ _ _ _ _ _ _ _ _ _ _ _ _ _ _ _ _ _ _ _ _ _ _ _ _ _ _ _ _ _ _ _ _ _ _ _ _ _ _ _ _ _ _ _ _ _ _ _ _ _ _ _ _ _ _ _ _ _ _ _ _ _ _ _ _ _ _ _ _ _ _ _ _ _ _ _ _ _ _ _ _ _ _ _ _ _ _ _ _ _ _ _ _ _ _ _ _ _ _ _ _ _ _ _ _ _ _ _ _ _ _ _ _ _ _ _ _ _ _ _ _ _ _ _ _ _ _ _ _ _ _ _ _ _ _ _ _ _ _ _ _ _ _ _ _ _ _ _ _ _ _ wr w.heap.size n pc N mc pa ma xs L m0 m1 m2 m3 _ _ (by kernel_rfl) HMr.out HVr.out (OwnF.fxV HOL.out) HMEM.out (by rw [← HN.out]; omega) (by rw [← HNL.out]; omega) HR.out HOK.out (hid (fun u0 u1 u2 u3 u4 u5 u7 u8 u9 u10 u11 u12 u13 u14 u15 u16 u17 u18 u19 u20 u21 u22 u23 u24 u25 u26 u27 u28 u29 u30 u31 u32 u33 u34 u35 u36 u37 u38 u39 u40 u41 u42 u43 u44 u45 u46 u47 u48 u49 u50 u51 u52 u53 u54 u55 u56 u57 u58 u59 u60 u61 u62 u63 u64 u65 u66 u67 u68 u69 u70 u71 u72 u73 u74 u75 u76 u77 u78 u79 u80 u81 u82 u83 u84 u85 u86 u87 u88 u89 u90 u91 u92 u93 u94 u95 u96 u97 u98 u99 u100 u101 u102 u103 u104 u105 u106 u107 u108 u109 u110 u111 u112 u113 u114 u115 u116 u117 u118 u119 u120 u121 u122 u123 u124 u125 u126 u127 u128 u129 u130 u131 u132 u133 u134 u135 u136 u137 u138 u139 u140 u141 u142 u143 u144 u145 u146 u147 u148 u149 u150 u151 u152 u153 u154 u155 u156 u157 u158 u159 u160 u161 u162 u163 u164 u165 u166 u167 u168 u169 u170 u171 u172 u173 u174 u175 u176 u177 u178 u179 u180 u181 u182 u183 u184 u185 u186 u187 u188 u189 u190 u191 u192 u193 u194 u195 u196 u197 u198 u199 u200 u201 u202 u203 u204 u205 u206 u207 u208 u209 u210 u211 u212 u213 u214 u215 u216 u217 u218 u219 u220 u221 u222 u223 u224 u225 u226 u227 u228 W5 hb => ?_))
          have HB9 := hid (HBr.out.trans (hb.mono HBr.out.size))
          clear hb
          go_ret
          exact ⟨rfl, HB9.out⟩
end Go.Proofs.Yteoikaedpgianaa
