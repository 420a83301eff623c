/- Texts of the seat Yteanlcefdoigcaa, turned to this one by wip/port.py: MapX AppX. -/
import Derived.Test.YtcclpdfmmdonpaaGreatRows
import Derived.Test.YtcclpdfmmdonpaaGreatXBas
import Derived.Test.YtcclpdfmmdonpaaGreatXMap
import Derived.Test.YtcclpdfmmdonpaaGreatXVal
import Derived.Test.YtcclpdfmmdonpaaGreatXSrt
import Derived.Test.YtcclpdfmmdonpaaGreatXLay
import Derived.Test.YtcclpdfmmdonpaaGreatXRst
import Derived.Test.YtcclpdfmmdonpaaGreatXRla
import Derived.Test.YtcclpdfmmdonpaaGreatXTil
namespace Go.Proofs.YtcclpdfmmdonpaaGreat
open Go.RowKit Go.Maps
def MapZ (P : Program) (W : World) (k : TypeId) (b n s : Nat) (get : Lit -> Option Value) : Prop :=
  ∃ D : DataW Value, W.ownsMap P k heldR b n D /\ (∀ kl z, D.atKey kl (.held z) = .held ((get kl).getD z)) /\ (∀ kl, Maps.has D kl = (get kl).isSome) /\ Maps.size D = s
section
variable {P : Program} {W W' : World} {k t e : TypeId} {b n s : Nat} {get : Lit -> Option Value}
theorem MapZ.at (h : MapZ P W k b n s get) : MapAt P W k b n get := by
  obtain ⟨D, h1, h2, h3, _⟩ := h; exact ⟨D, h1, h2, h3⟩
theorem MapZ.made (W : World) : MapZ P (W.alloc (.map #[] 0)) k W.heap.size 0 0 (fun _ => none) :=
  ⟨.map [], World.ownsMap_made W P k heldR, fun _ _ => rfl, fun _ => rfl, rfl⟩
theorem MapZ.kept {row : Option Nat} (h : MapZ P W k b n s get) (hg : W.grownBy W' row) (hne : some b ≠ row) : MapZ P W' k b n s get := by
  obtain ⟨D, h1, h2⟩ := h; exact ⟨D, h1.kept hg hne, h2⟩
theorem MapZ.grow (h : MapZ P W k b n s get) (hb : Below W.heap.size W W') : MapZ P W' k b n s get := h.kept (below_grownBy hb) (by simp)
theorem MapZ.look_ok (h : MapZ P W k b n s get) (K : Keyed P k) (ht : P.underlying t = some (.map k e)) {z : Value} (hz : (zeroValue e).run P W = .ok z W) {key : Value} {kl : Lit} (hkey : keyOf P k key = some kl) :
    (Instr.lookup t (.map (some b)) key true).run P W = .ok (.tuple #[(get kl).getD z, .bool (get kl).isSome]) W := by
  obtain ⟨D, h1, h2, h3, _⟩ := h; obtain ⟨v, ps, hrun, hv⟩ := h1.look_ok K ht hz (zd := .held z) (zp := []) rfl hkey; rw [h2] at hv; simp only [heldR, Option.some.injEq, Prod.mk.injEq] at hv; have := hv.1; injection this with this
  rw [<- this, <- h3]; exact hrun
theorem MapZ.put (h : MapZ P W k b n s get) (K : Keyed P k) (ht : P.underlying t = some (.map k e)) (hn : n < maxLen) {key val : Value} {kl : Lit} (hkey : keyOf P k key = some kl) (hnew : get kl = none) :
    ∃ w', (Instr.mapUpdate t (.map (some b)) key val).run P W = .ok () w' /\ MapZ P w' k b (n + 1) (s + 1) (putG get kl val) /\ W.grownBy w' (some b) := by
  obtain ⟨D, h1, h2, h3, h4⟩ := h; obtain ⟨w', hrun, hown, hg⟩ := h1.update K ht hn (d := .held val) (ps := []) hkey rfl; refine ⟨w', hrun, ⟨_, hown, fun x z => ?_, fun x => ?_, ?_⟩, hg⟩
  · unfold putG; by_cases hx : x = kl
    · subst hx; rw [if_pos (WideAt.sameKey_self (K.key hkey)), atKey_put_same h1.isMap (K.key hkey)]; rfl
    · rw [if_neg (by rw [sameKey_ne hx]; simp), atKey_put_other hx]; exact h2 x z
  · unfold putG; by_cases hx : x = kl
    · subst hx; rw [if_pos (WideAt.sameKey_self (K.key hkey)), has_put_same h1.isMap (K.key hkey)]; rfl
    · rw [if_neg (by rw [sameKey_ne hx]; simp), has_put_other hx]; exact h3 x
  · rw [size_put (h1.tidy K), h3, hnew, h4]; rfl
theorem MapZ.drop (h : MapZ P W k b n (s + 1) get) (K : Keyed P k) (ht : P.underlying t = some (.map k e)) {key : Value} {kl : Lit} (hkey : keyOf P k key = some kl) (hold : (get kl).isSome = true) (ty : TypeId) :
    ∃ w', (Builtin.delete_ #[t, k] ty #[.map (some b), key]).run P W = .ok (.tuple #[]) w' /\ MapZ P w' k b n s (delG get kl) /\ W.grownBy w' (some b) := by
  obtain ⟨D, h1, h2, h3, h4⟩ := h; obtain ⟨w', hrun, hown, hg⟩ := h1.drop K ht hkey ty; refine ⟨w', hrun, ⟨_, hown, fun x z => ?_, fun x => ?_, ?_⟩, hg.grown⟩
  · unfold delG; by_cases hx : x = kl
    · subst hx; rw [if_pos (WideAt.sameKey_self (K.key hkey)), atKey_del_same]; rfl
    · rw [if_neg (by rw [sameKey_ne hx]; simp), atKey_del_other hx]; exact h2 x z
  · unfold delG; by_cases hx : x = kl
    · subst hx; rw [if_pos (WideAt.sameKey_self (K.key hkey)), has_del_same]; rfl
    · rw [if_neg (by rw [sameKey_ne hx]; simp), has_del_other hx]; exact h3 x
  · have := size_del (k := kl) (h1.tidy K); rw [h3, hold, h4, if_pos rfl] at this; omega
theorem wpList_putZ {ops : Array Oper} {rest : List Oper} {o : Oper} {a : Act} {Q : Exit -> Act -> World -> Prop} (hg : o.guard = none) (m x v : Operand) (t : TypeId) (hop : o.op = Op.mapUpdate t m x v)
    (K : Keyed P k) (ht : P.underlying t = some (.map k e)) (hm : a.eval m = .map (some b)) (h : MapZ P W k b n s get) (hn : n < maxLen) (key val : Value) (kl : Lit) (hx : a.eval x = key) (hv : a.eval v = val) (hkey : keyOf P k key = some kl) (hnew : get kl = none)
    (hK : ∀ w', MapZ P w' k b (n + 1) (s + 1) (putG get kl val) -> W.grownBy w' (some b) -> wpList P ops Q rest (a.put o.dst undef) w') : wpList P ops Q (o :: rest) a W := by
  refine wpList_plain hg fun K' hK' => ?_
  obtain ⟨w', hrun, r1, r2⟩ := h.put K ht hn (val := val) hkey hnew; unfold Oper.wp; simp [execOp, hop, hm, hx, hv, hrun, Result.andThen]; exact hK' _ _ (hK w' r1 r2)
theorem wpList_dropZ {ops : Array Oper} {rest : List Oper} {o : Oper} {a : Act} {Q : Exit -> Act -> World -> Prop} (hg : o.guard = none) (m x : Operand) (t : TypeId) (hop : o.op = Op.call { callee := Callee.builtin Builtin.delete, args := #[m, x], argTypes := #[t, k] })
    (K : Keyed P k) (ht : P.underlying t = some (.map k e)) (hm : a.eval m = .map (some b)) (h : MapZ P W k b n (s + 1) get) (key : Value) (kl : Lit) (hx : a.eval x = key) (hkey : keyOf P k key = some kl) (hold : (get kl).isSome = true)
    (hK : ∀ w', MapZ P w' k b n s (delG get kl) -> W.grownBy w' (some b) -> wpList P ops Q rest (a.put o.dst (.tuple #[])) w') : wpList P ops Q (o :: rest) a W := by
  refine wpList_plain hg fun K' hK' => ?_
  obtain ⟨w', hrun, r1, r2⟩ := h.drop K ht hkey hold o.type; unfold Oper.wp; simp [execOp, hop, resolve, invoke, builtin, hm, hx, hrun, Result.andThen]; exact hK' _ _ (hK w' r1 r2)
theorem wpList_lenZ {ops : Array Oper} {rest : List Oper} {o : Oper} {a : Act} {Q : Exit -> Act -> World -> Prop} (hg : o.guard = none) (m : Operand) (t : TypeId) (hop : o.op = Op.call { callee := Callee.builtin Builtin.len, args := #[m], argTypes := #[t] })
    (ht : P.underlying t = some (.map k e)) (hm : a.eval m = .map (some b)) (h : MapZ P W k b n s get)
    (hK : wpList P ops Q rest (a.put o.dst (.int .i64 s)) W) : wpList P ops Q (o :: rest) a W := by
  obtain ⟨D, h1, _, _, h4⟩ := h; refine wpList_len_own W hg m t hop k e ht heldR b n D hm h1 ?_; rw [h4]; exact hK
end
def ptG (L : List Pt) : Lit -> Option Value := fun l => (L.find? (fun p => (Lit.int .i64 p.id).sameKey l)).map (fun p => .agg p.row.toArray)
theorem ptG_int (L : List Pt) (z : Int) : ptG L (.int .i64 z) = (L.find? (fun p => p.id == z)).map (fun p => .agg p.row.toArray) := by
  unfold ptG; congr 2; funext p; exact same_int _ _
theorem ptG_none {L : List Pt} {z : Int} (h : ∀ p ∈ L, p.id ≠ z) : ptG L (.int .i64 z) = none := by
  rw [ptG_int, Option.map_eq_none_iff, List.find?_eq_none]; intro p hp; simp [h p hp]
theorem ptG_some {L : List Pt} {z : Int} : (ptG L (.int .i64 z)).isSome = decide (∃ p ∈ L, p.id = z) := by
  rw [ptG_int, Option.isSome_map, Bool.eq_iff_iff, decide_eq_true_eq, List.find?_isSome]; simp
theorem ptG_put (L : List Pt) (p : Pt) : putG (ptG L) (.int .i64 p.id) (.agg p.row.toArray) = ptG (p :: L) := by
  funext l; by_cases h : l = .int .i64 p.id
  · subst h; rw [putG_same (show WideAt.IsKeyLit (Lit.int .i64 p.id) from trivial), ptG_int]; simp
  · rw [putG_other h]; unfold ptG; rw [List.find?_cons, sameKey_ne (Ne.symm h)]
theorem ptG_del (L : List Pt) (z : Int) : delG (ptG L) (.int .i64 z) = ptG (L.filter (fun p => !(z == p.id))) := by
  funext l; unfold delG; by_cases h : l = .int .i64 z
  · subst h; rw [if_pos (WideAt.sameKey_self (show WideAt.IsKeyLit (Lit.int .i64 z) from trivial)), ptG_none]; intro p hp e; have := (List.mem_filter.1 hp).2; simp [e] at this
  · rw [if_neg (by rw [sameKey_ne h]; simp)]; unfold ptG; rw [find_filter_keep]; intro p hp; by_cases e : z = p.id
    · subst e; rw [sameKey_ne (Ne.symm h)] at hp; exact absurd hp (by simp)
    · simp [e]
theorem ptG_entry {L : List Pt} {l : Lit} {v : Value} (h : ptG L l = some v) : ∃ p ∈ L, v = .agg p.row.toArray /\ l = .int .i64 p.id := by
  unfold ptG at h; obtain ⟨p, h1, h2⟩ := Option.map_eq_some_iff.1 h; refine ⟨p, List.mem_of_find?_eq_some h1, h2.symm, ?_⟩; have h3 := List.find?_some h1; by_cases e : l = .int .i64 p.id
  · exact e
  · rw [sameKey_ne (Ne.symm e)] at h3; exact absurd h3 (by simp)
open Go.ChangeShapes Go.WideShapes Go.RowKit Go.Maps Go.Sort
theorem zero36 (W : World) : (zeroValue 106).run Tryz.prog W = .ok (.agg #[.int .i64 0, .int .i64 0, .int .i64 0, .int .i64 0, .int .i64 0, .int .i64 0, .int .i64 0, .int .i64 0, .int .i64 0]) W := by kernel_rfl
theorem wide9p (p0 p1 p2 p3 p4 p5 p6 p7 p8 : Int) : Wide 9 [[Value.int .i64 p0, .int .i64 p1, .int .i64 p2, .int .i64 p3, .int .i64 p4, .int .i64 p5, .int .i64 p6, .int .i64 p7, .int .i64 p8]] := Wide.one rfl (Pt.row_one ⟨p0, p1, p2, p3, p4, p5, p6, p7, p8⟩)
theorem drop_one {z : Int} : ∀ {L : List Pt}, L.Pairwise (fun p q => p.id ≠ q.id) -> (∃ p ∈ L, p.id = z) -> (L.filter (fun p => !(z == p.id))).length + 1 = L.length
  | [], _, h => by obtain ⟨p, hp, _⟩ := h; simp at hp
  | q :: L, hw, h => by
    obtain ⟨h1, h2⟩ := List.pairwise_cons.1 hw; by_cases e : q.id = z
    · have hall : L.filter (fun p => !(z == p.id)) = L := by
        rw [List.filter_eq_self]; intro p hp; have := h1 p hp; rw [Bool.not_eq_true', beq_eq_false_iff_ne]; exact fun g => this (e.trans g)
      rw [List.filter_cons, if_neg (by simp [e]), hall]; rfl
    · rw [List.filter_cons, if_pos (by simp; exact fun g => e g.symm), List.length_cons, List.length_cons, drop_one h2]; obtain ⟨p, hp, hz⟩ := h
      rcases List.mem_cons.1 hp with rfl | g
      · exact absurd hz e
      · exact ⟨p, g, hz⟩
theorem good_ids {P : List Pt} (h : goodL P = true) : P.Pairwise (fun p q => p.id ≠ q.id) := ((goodL_iff P).1 h).2.2
theorem keep_ids {P : List Pt} (h : goodL P = true) (R : List Int) {L : List Pt} (hp : L.Perm (keepL P R)) : L.Pairwise (fun p q => p.id ≠ q.id) :=
  (hp.pairwise_iff (R := fun p q : Pt => p.id ≠ q.id) (fun {_ _} e => Ne.symm e)).2 ((good_ids h).filter _)
theorem clone_v (v : Value) (l : List Pt) (w : World) (hp : PtsV w v l) (hn : l.length <= 4096) : Calls Tryz.prog 57 #[v] w fun r w' => (∃ v, r = .returned v /\ OwnP w' w.heap.size v l) /\ Below w.heap.size w w' := by
  obtain ⟨a, cap, rfl, h⟩ := hp
  rcases h with rfl | ⟨b, off, rfl, hb, hr⟩
  · exact clone_empty a cap w
  · exact clone_pts b off cap l w hn hb hr
structure RgAt (w : World) (mb rb N : Nat) (L A : List Pt) (ov : Value) (W : World) (left : Lit -> Bool) (cnt : Nat) (X : List Pt) : Prop where
  rng : RangeAt Tryz.prog W 3 mb rb N (ptG L) left cnt
  has : ∀ kl, left kl = true -> (ptG L kl).isSome = true
  own : OwnP W w.heap.size ov (A ++ X)
  mem : ∀ p, p ∈ X ↔ p ∈ L /\ left (.int .i64 p.id) = false
  ids : X.Pairwise (fun p q => p.id ≠ q.id)
  base : w.heap.size <= mb /\ w.heap.size <= rb
  below : Below w.heap.size w W
def RgRel (w : World) (mb rb N : Nat) (L A : List Pt) (ov : Value) (W : World) : Prop := ∃ (left : Lit -> Bool) (cnt : Nat) (X : List Pt) (o : Value), o = ov /\ RgAt w mb rb N L A ov W left cnt X
theorem ids_perm {X L : List Pt} (hx : X.Pairwise (fun p q => p.id ≠ q.id)) (hl : L.Pairwise (fun p q => p.id ≠ q.id)) (h : ∀ p, p ∈ X ↔ p ∈ L) : X.Perm L := by
  have hn1 : X.Nodup := hx.imp (fun g e => g (congrArg Pt.id e)); have hn2 : L.Nodup := hl.imp (fun g e => g (congrArg Pt.id e)); exact (List.perm_ext_iff_of_nodup hn1 hn2).2 h
theorem RgAt.len {w : World} {mb rb N : Nat} {L A : List Pt} {ov : Value} {W : World} {left : Lit -> Bool} {cnt : Nat} {X : List Pt} (h : RgAt w mb rb N L A ov W left cnt X) : X.length <= L.length := by
  have h1 := sub_len (l := X.map Pt.id) (m := L.map Pt.id) (by rw [List.pairwise_map]; exact h.ids) (fun a ha => by
    obtain ⟨p, hp, rfl⟩ := List.mem_map.1 ha
    exact List.mem_map.2 ⟨p, ((h.mem p).1 hp).1, rfl⟩)
  simpa using h1
set_option maxRecDepth 100000 in
set_option maxHeartbeats 6400000 in
theorem applied_any (pv av rv : Value) (P A : List Pt) (R : List Int) (w : World) (hp : PtsV w pv P) (ha : PtsV w av A) (hr : IntsV w rv R) (hgP : goodL P = true) (hgA : goodL A = true) (hRl : R.length <= maxLen) (hRw : ∀ z ∈ R, (Lit.int .i64 z).wf = true) :
    Calls Tryz.prog 51 #[pv, av, rv] w fun r w' => (∃ v e L, r = .returned (.tuple #[v, .int .i64 e]) /\ OwnP w' w.heap.size v L /\ MergeRes P A R e L) /\ Below w.heap.size w w' := by
  have HPV := hid hp; have HAV := hid ha; have HGP := hid hgP; have HGA := hid hgA; have HRW := hid hRw; have HPF := hid (goodL_facts hgP).2.1; have HAF := hid (goodL_facts hgA).2.1; have HPL := hid (goodL_facts hgP).2.2; have HAL := hid (goodL_facts hgA).2.2; obtain ⟨pa, pc, rfl, hpd⟩ := hp; obtain ⟨aa, ac, rfl, had⟩ := ha; obtain ⟨ra, rc, rfl, hrd⟩ := hr; obtain ⟨n, hn⟩ : ∃ n, n = P.length := ⟨_, rfl⟩; obtain ⟨m, hm⟩ : ∃ m, m = A.length := ⟨_, rfl⟩; obtain ⟨q, hq⟩ : ∃ q, q = R.length := ⟨_, rfl⟩; rw [<- hn] at HPV ⊢; rw [<- hm] at HAV ⊢; rw [<- hq] at hRl ⊢; have HN := hid hn; have HM := hid hm; have HQ := hid hq; have HPD := hid hpd; have HAD := hid had; have HRD := hid hrd; have hn1k : n <= 1024 := by rw [hn]; exact HPL.out
  have hm1k : m <= 1024 := by rw [hm]; exact HAL.out
  have hq63 : q <= 9223372036854775807 := by unfold maxLen at hRl; omega
  clear hpd had hrd hn hm hq hgP hgA hRw hRl; obtain ⟨i0, hi, hz0, hz1, hz2⟩ := info_parts info36; have HI := hid hi; have HZ0 := hid hz0; have HZ1 := hid hz1; have HZ2 := hid hz2; clear hi hz0 hz1 hz2; have hmk := fun (x : Int) (W : World) => (show (Instr.makeMap 148 (some (.int .i64 x))).run Tryz.prog W = .ok (.map (some W.heap.size)) (W.alloc (.map #[] 0)) by simp [Instr.makeMap, run_underlying Tryz.underlying148, asInt, newObj]; rfl)
  go_enter Tryz.func51, Tryz.ntmps51; go_upto_region 2 with fail; refine gen_world (fun W1 hW1 => ?_); have HM1 := hid (show MapZ Tryz.prog W1 3 w.heap.size 0 0 (ptG []) by rw [hW1]; exact MapZ.made w); have HB1 := hid (show Below w.heap.size w W1 by rw [hW1]; exact (Below.refl _ _).alloc (Nat.le_refl _) _); have hmb : w.heap.size < W1.heap.size := by rw [hW1]; simp
  clear hW1 hmk; go_wp2_with fail
  go_loopw [27] (fun iv W => ∃ i : Nat, i <= n /\ iv = .int .i64 (i : Int) /\ MapZ Tryz.prog W 3 w.heap.size i i (ptG (P.take i).reverse) /\ Below w.heap.size w W /\ w.heap.size < W.heap.size) (fun iv _ => n - (intOf iv).toNat)
  case atStart => exact ⟨0, by omega, rfl, HM1.out, HB1.out, hmb⟩
  case round =>
    obtain ⟨i, hi, rfl, hmap, hB, hmw⟩ := hrel; have HMP := hid hmap; have HB4 := hid hB; have hz4 := hB.size; clear hmap hB; by_cases hlt : i < n
    · have d1 : decide ((i : Int) < (n : Int)) = true := decide_eq_true (by omega); obtain ⟨p, hp⟩ : ∃ p, P[i]? = some p := ⟨_, List.getElem?_eq_getElem (by rw [<- HN.out]; exact hlt)⟩; obtain ⟨b, off, rfl, hbw, hrows⟩ := HPD.out.resolve_left (fun h => by rw [h] at hp; simp at hp); have hcs : ∀ y, y < 9 -> wr.cell? ⟨b, off + i * 9 + y, none⟩ = some (.int .i64 (p.f y)) := fun y hy => by
        rw [HB4.out.cell hbw, hrows i p.row (by rw [List.getElem?_map, hp]; rfl) y hy, Pt.row_at p y hy]
      have HPI := hid hp; have HFI := hid (HPF.out p (List.mem_of_getElem? hp)).1
      have HNW := hid (show ptG (P.take i).reverse (.int .i64 p.id) = none from ptG_none (fun u hu e => by
        rw [List.mem_reverse] at hu; obtain ⟨j, hj, ej⟩ := mem_take hu
        exact pw_not hj ej hp (fun g => g e) (good_ids HGP.out)))
      have HPT := hid (show putG (ptG (P.take i).reverse) (.int .i64 p.id) (.agg p.row.toArray) = ptG (P.take (i + 1)).reverse by
        rw [ptG_put, take_next hp, List.reverse_append]
        rfl)
      clear hp hrows hbw; obtain ⟨p0, p1, p2, p3, p4, p5, p6, p7, p8⟩ := p; simp only [Pt.row] at HPT; have HKEY := hid (keyOf_int_mk (P := Tryz.prog) Tryz.underlying3 (show (Lit.int .i64 p0).wf = true from WalkArith.wf_i64 (by have := HFI.out; simp only at this; omega))); have a0 : wr.cell? ⟨b, off + i * 9, none⟩ = some (.int .i64 p0) := hcs 0 (by decide); have a1 : wr.cell? ⟨b, off + i * 9 + 1, none⟩ = some (.int .i64 p1) := hcs 1 (by decide); have a2 : wr.cell? ⟨b, off + i * 9 + 2, none⟩ = some (.int .i64 p2) := hcs 2 (by decide); have a3 : wr.cell? ⟨b, off + i * 9 + 3, none⟩ = some (.int .i64 p3) := hcs 3 (by decide); have a4 : wr.cell? ⟨b, off + i * 9 + 4, none⟩ = some (.int .i64 p4) := hcs 4 (by decide); have a5 : wr.cell? ⟨b, off + i * 9 + 5, none⟩ = some (.int .i64 p5) := hcs 5 (by decide); have a6 : wr.cell? ⟨b, off + i * 9 + 6, none⟩ = some (.int .i64 p6) := hcs 6 (by decide); have a7 : wr.cell? ⟨b, off + i * 9 + 7, none⟩ = some (.int .i64 p7) := hcs 7 (by decide); have a8 : wr.cell? ⟨b, off + i * 9 + 8, none⟩ = some (.int .i64 p8) := hcs 8 (by decide); clear hcs; go_upto_region 5 with fail; refine gen_world (fun W5 hW5 => ?_); have HP5 := hid (show W5.heap[wr.heap.size]? = some (.cells #[.int .i64 p0, .int .i64 p1, .int .i64 p2, .int .i64 p3, .int .i64 p4, .int .i64 p5, .int .i64 p6, .int .i64 p7, .int .i64 p8] 106) by rw [hW5]; exact heap_alloc_at _ _ _ rfl); have hb5 : Below wr.heap.size wr W5 := by rw [hW5]; exact (Below.refl _ _).alloc (Nat.le_refl _) _
      have HBX := hid (HB4.out.trans (hb5.mono hz4)); have HM5 := hid (HMP.out.grow hb5); have hmw5 := Nat.lt_of_lt_of_le hmw hb5.size; clear hW5 hb5 a0 a1 a2 a3 a4 a5 a6 a7 a8 HMP; obtain ⟨g, hg⟩ : ∃ g, g = wr.heap.size := ⟨_, rfl⟩; rw [<- hg] at HP5 ⊢; clear hg; have b0 : W5.cell? ⟨g, 0, none⟩ = some (.int .i64 p0) := (cell_row (j := 0) HP5.out).trans rfl; have b1 : W5.cell? ⟨g, 1, none⟩ = some (.int .i64 p1) := (cell_row (j := 1) HP5.out).trans rfl; have b2 : W5.cell? ⟨g, 2, none⟩ = some (.int .i64 p2) := (cell_row (j := 2) HP5.out).trans rfl; have b3 : W5.cell? ⟨g, 3, none⟩ = some (.int .i64 p3) := (cell_row (j := 3) HP5.out).trans rfl; have b4 : W5.cell? ⟨g, 4, none⟩ = some (.int .i64 p4) := (cell_row (j := 4) HP5.out).trans rfl; have b5 : W5.cell? ⟨g, 5, none⟩ = some (.int .i64 p5) := (cell_row (j := 5) HP5.out).trans rfl; have b6 : W5.cell? ⟨g, 6, none⟩ = some (.int .i64 p6) := (cell_row (j := 6) HP5.out).trans rfl; have b7 : W5.cell? ⟨g, 7, none⟩ = some (.int .i64 p7) := (cell_row (j := 7) HP5.out).trans rfl; have b8 : W5.cell? ⟨g, 8, none⟩ = some (.int .i64 p8) := (cell_row (j := 8) HP5.out).trans rfl; have hml : i < maxLen := by unfold maxLen; omega
      go_wp2_with (at_mapUpdate; refine wpList_putZ rfl (.tmp 31) (.tmp 33) (.tmp 34) 148 rfl law3 Tryz.underlying148 rfl HM5.out hml (.int .i64 p0) (.agg #[.int .i64 p0, .int .i64 p1, .int .i64 p2, .int .i64 p3, .int .i64 p4, .int .i64 p5, .int .i64 p6, .int .i64 p7, .int .i64 p8]) (.int .i64 p0) rfl rfl HKEY.out HNW.out ?_; intro w8 hm8 hg8); rw [HPT.out] at hm8; have hs8 := hg8.size; exact ⟨⟨i + 1, by omega, by go_num, hm8, HBX.out.grown hg8 HBX.out.size (fun j hj => by injection hj with hj; omega), by omega⟩, by simp [intOf]; omega⟩
    · obtain rfl : i = n := by omega
      have d1 : decide ((i : Int) < (i : Int)) = false := by simp
      have HL0 := hid (show ∃ L : List Pt, L.Perm (keepL P (R.take 0)) /\ MapZ Tryz.prog wr 3 w.heap.size i L.length (ptG L) from ⟨P.reverse, by rw [List.take_zero, keepL_nil]; exact List.reverse_perm P, by
        have := HMP.out; rw [HN.out, List.take_length] at this; rw [List.length_reverse, HN.out]
        exact this⟩)
      clear HMP; obtain ⟨L0, hL0, hM0⟩ := HL0.out; have HLP0 := hid hL0; have HLM0 := hid hM0; clear hL0 hM0 HL0; go_wp2_with fail
      go_loopw [38] (fun jv W => ∃ (j : Nat) (L : List Pt), j <= q /\ jv = .int .i64 (j : Int) /\ GoneOk P (R.take j) /\ L.Perm (keepL P (R.take j)) /\ MapZ Tryz.prog W 3 w.heap.size i L.length (ptG L) /\ Below w.heap.size w W /\ w.heap.size < W.heap.size) (fun jv _ => q - (intOf jv).toNat)
      case atStart => exact ⟨0, L0, by omega, rfl, by rw [List.take_zero]; exact GoneOk.nil, HLP0.out, HLM0.out, HB4.out, hmw⟩
      clear HLP0 HLM0
      case round =>
        obtain ⟨j, L, hj, rfl, hgo, hperm, hmap, hB, hmw2⟩ := hrel; have HGO := hid hgo; have HLP := hid hperm; have HMP := hid hmap; have HB6 := hid hB; have hz6 := hB.size; clear hgo hperm hmap hB; by_cases hlt : j < q
        · have d2 : decide ((j : Int) < (q : Int)) = true := decide_eq_true (by omega); obtain ⟨z, hz⟩ : ∃ z, R[j]? = some z := ⟨_, List.getElem?_eq_getElem (by rw [<- HQ.out]; exact hlt)⟩; obtain ⟨b, off, rfl, hbw, hrows⟩ := HRD.out.resolve_left (fun h => by rw [h] at hz; simp at hz); have c0 : wr.cell? ⟨b, off + j, none⟩ = some (.int .i64 z) := by rw [HB6.out.cell hbw]; exact hrows j z hz
          have HZI := hid hz; have HKEY := hid (keyOf_int_mk (P := Tryz.prog) Tryz.underlying3 (HRW.out z (List.mem_of_getElem? hz))); clear hz hbw hrows; have hlook := HMP.out.look_ok law3 Tryz.underlying148 (zero36 wr) HKEY.out
          cases hgz : ptG L (.int .i64 z) with
          | none =>
            rw [hgz] at hlook; simp only [Option.getD_none, Option.isSome_none] at hlook
            have HNG := hid (GoneOk.stop (P := P) HZI.out (fun ⟨p, h1, h2⟩ => by
              have h3 : (ptG L (.int .i64 z)).isSome = true := by rw [ptG_some]; exact decide_eq_true ⟨p, HLP.out.mem_iff.2 h1, h2⟩
              rw [hgz] at h3
              exact absurd h3 (by simp)))
            have HR := hid (MergeRes.bad (A := A) (mergeErr_gone HNG.out) (by decide)); clear hgz; go_wp2_with fail; go_ret2; exact ⟨⟨_, _, [], rfl, OwnR.nil _ _ _ _, HR.out⟩, by have hB0 := HB6.out; (repeat' (first | (with_reducible first | exact Below.refl _ _ | assumption | refine Below.alloc ?_ ?_ _ | refine Below.drew ?_ | refine below_drewN ?_ _ | refine Below.setCell ?_ ?_ _ | refine below_setRow ?_ ?_ _) | go_size))⟩
          | some v =>
            obtain ⟨p, hpL, rfl, hpz⟩ := ptG_entry hgz; obtain rfl : z = p.id := by injection hpz
            have HOLD := hid (show (ptG L (.int .i64 p.id)).isSome = true by rw [hgz]; rfl); rw [hgz] at hlook; simp only [Option.getD_some, Option.isSome_some] at hlook; have HPX := hid (show ∃ u ∈ keepL P (R.take j), u.id = p.id from ⟨p, HLP.out.mem_iff.1 hpL, rfl⟩); have HNX := hid (HGO.out.next HZI.out HPX.out); have HLN := hid (show (L.filter (fun u => !(p.id == u.id))).Perm (keepL P (R.take (j + 1))) by rw [keepL_next HZI.out]; exact HLP.out.filter _); obtain ⟨s, hs⟩ : ∃ s, s = (L.filter (fun u => !(p.id == u.id))).length := ⟨_, rfl⟩; have HS := hid hs; have HM6 := hid (show MapZ Tryz.prog wr 3 w.heap.size i (s + 1) (ptG L) by rw [hs, drop_one (keep_ids HGP.out _ HLP.out) ⟨p, hpL, rfl⟩]; exact HMP.out); have HDL := hid (ptG_del L p.id); clear hgz hpL hpz hs HMP; obtain ⟨p0, p1, p2, p3, p4, p5, p6, p7, p8⟩ := p; simp only [Pt.row] at hlook; go_upto_region 11 with fail; refine gen_world (fun W7 hW7 => ?_); have hb7 : Below wr.heap.size wr W7 := by rw [hW7]; exact (Below.refl _ _).alloc (Nat.le_refl _) _
            have HB7 := hid (HB6.out.trans (hb7.mono hz6)); have HM7 := hid (HM6.out.grow hb7); have hmw7 := Nat.lt_of_lt_of_le hmw2 hb7.size; clear hW7 hb7 hlook c0 HM6; go_wp2_with (at_delete; refine wpList_dropZ rfl (.tmp 50) (.tmp 51) 148 rfl law3 Tryz.underlying148 rfl HM7.out (.int .i64 p0) (.int .i64 p0) rfl HKEY.out HOLD.out ?_; intro w8 hm8 hg8); rw [HDL.out, HS.out] at hm8; have hs8 := hg8.size; exact ⟨⟨j + 1, _, by omega, by go_num, HNX.out, HLN.out, hm8, HB7.out.grown hg8 HB7.out.size (fun j hj => by injection hj with hj; omega), by omega⟩, by simp [intOf]; omega⟩
        · obtain rfl : j = q := by omega
          have d2 : decide ((j : Int) < (j : Int)) = false := by simp
          have HGK := hid (show GoneOk P R by have := HGO.out; rwa [HQ.out, List.take_length] at this); have HLK := hid (show L.Perm (keepL P R) by have := HLP.out; rwa [HQ.out, List.take_length] at this); obtain ⟨W6, rfl⟩ : ∃ W6, W6 = wr := ⟨_, rfl⟩; clear HGO HLP; go_wp2_with fail
          go_loopw [55] (fun kv W => ∃ k : Nat, k <= m /\ kv = .int .i64 (k : Int) /\ (∀ a ∈ A.take k, ∀ p ∈ keepL P R, p.id ≠ a.id) /\ Below W6.heap.size W6 W) (fun kv _ => m - (intOf kv).toNat)
          case atStart => exact ⟨0, by omega, rfl, fun a ha => by simp at ha, Below.refl _ _⟩
          case round =>
            obtain ⟨k, hk, rfl, hth, hB⟩ := hrel; have HTH := hid hth; have HBK := hid hB; have hzk := hB.size; have HB8 := hid (HB6.out.trans (hB.mono hz6)); clear hth hB; by_cases hlk : k < m
            · have d3 : decide ((k : Int) < (m : Int)) = true := decide_eq_true (by omega); obtain ⟨p, hp⟩ : ∃ p, A[k]? = some p := ⟨_, List.getElem?_eq_getElem (by rw [<- HM.out]; exact hlk)⟩; obtain ⟨b, off, rfl, hbw, hrows⟩ := HAD.out.resolve_left (fun h => by rw [h] at hp; simp at hp); have hcs : ∀ y, y < 9 -> wr.cell? ⟨b, off + k * 9 + y, none⟩ = some (.int .i64 (p.f y)) := fun y hy => by
                rw [HB8.out.cell hbw, hrows k p.row (by rw [List.getElem?_map, hp]; rfl) y hy, Pt.row_at p y hy]
              have HPI := hid hp; have HFI := hid (HAF.out p (List.mem_of_getElem? hp)).1; clear hp hrows hbw; obtain ⟨p0, p1, p2, p3, p4, p5, p6, p7, p8⟩ := p; have HKEY := hid (keyOf_int_mk (P := Tryz.prog) Tryz.underlying3 (show (Lit.int .i64 p0).wf = true from WalkArith.wf_i64 (by have := HFI.out; simp only at this; omega))); have a0 : wr.cell? ⟨b, off + k * 9, none⟩ = some (.int .i64 p0) := hcs 0 (by decide); have a1 : wr.cell? ⟨b, off + k * 9 + 1, none⟩ = some (.int .i64 p1) := hcs 1 (by decide); have a2 : wr.cell? ⟨b, off + k * 9 + 2, none⟩ = some (.int .i64 p2) := hcs 2 (by decide); have a3 : wr.cell? ⟨b, off + k * 9 + 3, none⟩ = some (.int .i64 p3) := hcs 3 (by decide); have a4 : wr.cell? ⟨b, off + k * 9 + 4, none⟩ = some (.int .i64 p4) := hcs 4 (by decide); have a5 : wr.cell? ⟨b, off + k * 9 + 5, none⟩ = some (.int .i64 p5) := hcs 5 (by decide); have a6 : wr.cell? ⟨b, off + k * 9 + 6, none⟩ = some (.int .i64 p6) := hcs 6 (by decide); have a7 : wr.cell? ⟨b, off + k * 9 + 7, none⟩ = some (.int .i64 p7) := hcs 7 (by decide); have a8 : wr.cell? ⟨b, off + k * 9 + 8, none⟩ = some (.int .i64 p8) := hcs 8 (by decide); clear hcs; go_upto_region 18 with fail; refine gen_world (fun W7 hW7 => ?_); have HP7 := hid (show W7.heap[wr.heap.size]? = some (.cells #[.int .i64 p0, .int .i64 p1, .int .i64 p2, .int .i64 p3, .int .i64 p4, .int .i64 p5, .int .i64 p6, .int .i64 p7, .int .i64 p8] 106) by rw [hW7]; exact heap_alloc_at _ _ _ rfl); have hb7 : Below wr.heap.size wr W7 := by rw [hW7]; exact (Below.refl _ _).alloc (Nat.le_refl _) _
              have HB7 := hid (HBK.out.trans (hb7.mono hzk)); clear hW7 hb7 a0 a1 a2 a3 a4 a5 a6 a7 a8; obtain ⟨g, hg⟩ : ∃ g, g = wr.heap.size := ⟨_, rfl⟩; rw [<- hg] at HP7 ⊢; clear hg; have c0 : W7.cell? ⟨g, 0, none⟩ = some (.int .i64 p0) := (cell_row (j := 0) HP7.out).trans rfl; have hlook := (HMP.out.grow HB7.out).look_ok law3 Tryz.underlying148 (zero36 W7) HKEY.out
              cases hgz : ptG L (.int .i64 p0) with
              | none =>
                rw [hgz] at hlook; simp only [Option.getD_none, Option.isSome_none] at hlook
                have HTN := hid (show ∀ a ∈ A.take (k + 1), ∀ u ∈ keepL P R, u.id ≠ a.id by
                  rw [take_next HPI.out]; intro a ha u hu
                  rcases List.mem_append.1 ha with g1 | g1
                  · exact HTH.out a g1 u hu
                  · obtain rfl := List.mem_singleton.1 g1; intro e; have h3 : (ptG L (.int .i64 p0)).isSome = true := by rw [ptG_some]; exact decide_eq_true ⟨u, HLK.out.mem_iff.2 hu, e⟩
                    rw [hgz] at h3
                    exact absurd h3 (by simp))
                clear hgz; go_wp2_with fail; exact ⟨⟨k + 1, by omega, by go_num, HTN.out, HB7.out.alloc HB7.out.size _⟩, by simp [intOf]; omega⟩
              | some v =>
                obtain ⟨u, huL, rfl, hpz⟩ := ptG_entry hgz; rw [hgz] at hlook; simp only [Option.getD_some, Option.isSome_some] at hlook
                have HNT := hid (show ¬ ThereOk P A R from fun h => by
                  injection hpz with _ hpz
                  exact h _ (List.mem_of_getElem? HPI.out) u (HLK.out.mem_iff.1 huL) hpz.symm)
                have HR := hid (MergeRes.bad (mergeErr_there HGK.out HNT.out) (by decide)); clear hgz huL hpz; obtain ⟨u0, u1, u2, u3, u4, u5, u6, u7, u8⟩ := u; simp only [Pt.row] at hlook; go_wp2_with fail; go_ret2; exact ⟨⟨_, _, rfl, [], OwnR.nil _ _ _ _, HR.out⟩, HB6.out.trans ((HB7.out.alloc HB7.out.size _).mono hz6)⟩
            · obtain rfl : k = m := by omega
              have d3 : decide ((k : Int) < (k : Int)) = false := by simp
              have HTK := hid (show ThereOk P A R by have := HTH.out; rwa [HM.out, List.take_length] at this); have HMK := hid (HMP.out.grow HBK.out); have HAW := hid (HAV.out.still HB8.out); obtain ⟨s, hs⟩ : ∃ s, s = L.length := ⟨_, rfl⟩; rw [<- hs] at HMK; have HSL := hid hs; have hs1k : s <= 1024 := by
                rw [hs, HLK.out.length_eq]; refine Nat.le_trans (List.length_filter_le _ _) ?_; rw [<- HN.out]; exact hn1k
              have hmwk : w.heap.size < wr.heap.size := Nat.lt_of_lt_of_le hmw2 hzk; clear HMP HTH hs; by_cases hmany : s + k <= 1024
              · have d4 : decide ((1024 : Int) < (s : Int) + (k : Int)) = false := decide_eq_false (by omega); have hmn : ¬ 1024 < s + k := by omega
                have HER := hid (mergeErr_ok HGK.out HTK.out (by rw [<- HLK.out.length_eq, <- HSL.out, <- HM.out]; exact hmany)); have hz8 := HB8.out.size; go_wp2_with (at_len; refine wpList_lenZ rfl (.tmp 68) 148 rfl Tryz.underlying148 rfl HMK.out ?_); refine (clone_v _ A wr HAW.out (by have := HAL.out; omega)).mono ?_; rintro r w7 ⟨⟨cv, rfl, hown⟩, hb7⟩; have HO7 := hid (show OwnP w7 w.heap.size cv A from OwnR.mono hown hz8); have HB7 := hid (HB8.out.trans (hb7.mono hz8)); have HM7 := hid (HMK.out.grow hb7); have hmw7 : w.heap.size < w7.heap.size := Nat.lt_of_lt_of_le hmwk hb7.size; clear hown hb7 HMK
                go_wp2_with (refine wpList_rangeV rfl (.tmp 76) 148 rfl law3 Tryz.underlying148 rfl HM7.out.at ?_
                             intro W9 cnt hr9 hg9 hs9; have HR9 := hid hr9; have HG9 := hid hg9
                             clear hr9 hg9 hs9)
                have HRG := hid (show RgRel w w.heap.size w7.heap.size i L A cv W9 from ⟨_, cnt, [], _, rfl, HR9.out, fun kl h => h, by rw [List.append_nil]; exact OwnR.turned HO7.out (turned_grown HG9.out) (fun b _ e => by cases e), fun p => by
                  constructor
                  · intro h; simp at h
                  · rintro ⟨h1, h2⟩; rw [ptG_some] at h2
                    exact absurd ⟨p, h1, rfl⟩ (of_decide_eq_false h2), List.Pairwise.nil, ⟨Nat.le_refl _, by omega⟩, (HB7.out.grown HG9.out (by omega) (fun b e => by cases e))⟩)
                go_frame
                go_loopw [19] (fun ov W => RgRel w w.heap.size w7.heap.size i L A ov W) (fun _ W => W.rangeLeft w.heap.size w7.heap.size)
                case atStart => exact HRG.out
                clear HRG HR9 HG9
                case round =>
                  obtain ⟨left, cnt2, X, ov, rfl, hra⟩ := hrel; have HRA := hid hra; have hzr := hra.below.size; clear hra
                  go_upto_region 28 with (refine wpList_nextV rfl (.tmp 77) rfl law3 rfl HRA.out.rng HRA.out.has ?_ ?_
                                          intro hd; have HD := hid hd; clear hd
                                          rotate_left
                                          intro key vv kl2 W10 cnt3 hk2 hl2 hg2 hr10 hlt hgr10 hsz10 hen; obtain ⟨p, hpL, rfl, rfl⟩ := ptG_entry hg2; have HPLX := hid hpL; have HL2X := hid hl2; have HR10 := hid hr10; have HLT := hid hlt; have HG10 := hid hgr10; have HPE := hid (show ∃ p', p' = p from ⟨p, rfl⟩); obtain ⟨p0, p1, p2, p3, p4, p5, p6, p7, p8⟩ := p; simp only [Pt.row] at hen; clear hpL hl2 hg2 hr10 hlt hgr10 hsz10 hk2
                                          rotate_right)
                  · have HXL := hid (ids_perm HRA.out.ids (keep_ids HGP.out R HLK.out) (fun p => by
                      rw [HRA.out.mem]
                      exact ⟨fun h => h.1, fun h => ⟨h, HD.out _⟩⟩))
                    have HPA := hid (show (A ++ X).Perm (A ++ keepL P R) from (HXL.out.trans HLK.out).append_left A); have HAGX := hid (goodL_perm HPA.out.symm (merge_good HGP.out HGA.out HER.out)); refine (sortId_any ov (A ++ X) w.heap.size wr HRA.out.own (by have := (goodL_facts HAGX.out).2.2; omega) (fun p hp => ((goodL_facts HAGX.out).2.1 p hp).1)).mono ?_; rintro r w11 ⟨rfl, L', hperm, hasc, hown, hg11⟩; have HO11 := hid (show OwnP w11 w.heap.size ov L' from hown); have HB11 := hid (show Below w.heap.size w w11 from HRA.out.below.grown hg11 hzr (fun b hb => OwnR.ownBlock HRA.out.own b hb)); have HR := hid (MergeRes.ok HER.out (hperm.trans HPA.out) hasc); clear hperm hasc hown hg11; go_wp2_with fail; go_ret2; exact ⟨⟨_, _, L', rfl, HO11.out, HR.out⟩, HB11.out⟩
                  · refine gen_world (fun W11 hW11 => ?_); have HP11 := hid (show W11.heap[W10.heap.size]? = some (.cells #[.int .i64 p0, .int .i64 p1, .int .i64 p2, .int .i64 p3, .int .i64 p4, .int .i64 p5, .int .i64 p6, .int .i64 p7, .int .i64 p8] 106) by rw [hW11]; exact heap_alloc_at _ _ _ rfl); have hb11 : Below W10.heap.size W10 W11 := by rw [hW11]; exact (Below.refl _ _).alloc (Nat.le_refl _) _
                    have HO10 := hid (show OwnP W10 w.heap.size ov (A ++ X) from OwnR.turned HRA.out.own (turned_grown HG10.out) (fun b hb e => own_iter HRA.out.own HRA.out.rng hb (by injection e))); have HOV := hid (OwnR.grow' HO10.out hb11); have HR11 := hid (HR10.out.grow hb11); have hz10 := HG10.out.size; have HB10 := hid (HRA.out.below.grown HG10.out hzr (fun b hb => by injection hb with hb; have := HRA.out.base.2; omega)); have HB11 := hid (HB10.out.trans (hb11.mono HB10.out.size)); clear hW11 hb11; obtain ⟨g, hg⟩ : ∃ g, g = W10.heap.size := ⟨_, rfl⟩; rw [<- hg] at HP11 ⊢; clear hg hen; have b0 : W11.cell? ⟨g, 0, none⟩ = some (.int .i64 p0) := (cell_row (j := 0) HP11.out).trans rfl; have b1 : W11.cell? ⟨g, 1, none⟩ = some (.int .i64 p1) := (cell_row (j := 1) HP11.out).trans rfl; have b2 : W11.cell? ⟨g, 2, none⟩ = some (.int .i64 p2) := (cell_row (j := 2) HP11.out).trans rfl; have b3 : W11.cell? ⟨g, 3, none⟩ = some (.int .i64 p3) := (cell_row (j := 3) HP11.out).trans rfl; have b4 : W11.cell? ⟨g, 4, none⟩ = some (.int .i64 p4) := (cell_row (j := 4) HP11.out).trans rfl; have b5 : W11.cell? ⟨g, 5, none⟩ = some (.int .i64 p5) := (cell_row (j := 5) HP11.out).trans rfl; have b6 : W11.cell? ⟨g, 6, none⟩ = some (.int .i64 p6) := (cell_row (j := 6) HP11.out).trans rfl; have b7 : W11.cell? ⟨g, 7, none⟩ = some (.int .i64 p7) := (cell_row (j := 7) HP11.out).trans rfl; have b8 : W11.cell? ⟨g, 8, none⟩ = some (.int .i64 p8) := (cell_row (j := 8) HP11.out).trans rfl; have HRK := hid (RowsAt.one (heap_alloc_at W11 _ _ rfl) : RowsAt (W11.alloc (.cells #[.int .i64 p0, .int .i64 p1, .int .i64 p2, .int .i64 p3, .int .i64 p4, .int .i64 p5, .int .i64 p6, .int .i64 p7, .int .i64 p8] 106)) W11.heap.size 0 9 [[.int .i64 p0, .int .i64 p1, .int .i64 p2, .int .i64 p3, .int .i64 p4, .int .i64 p5, .int .i64 p6, .int .i64 p7, .int .i64 p8]]); have HOA := hid (OwnR.grow' HOV.out ((Below.refl _ _).alloc (Nat.le_refl _) _) : OwnR (W11.alloc (.cells #[.int .i64 p0, .int .i64 p1, .int .i64 p2, .int .i64 p3, .int .i64 p4, .int .i64 p5, .int .i64 p6, .int .i64 p7, .int .i64 p8] 106)) w.heap.size 106 9 ov ((A ++ X).map Pt.row)); have HRN := hid (HR11.out.grow ((Below.refl _ _).alloc (Nat.le_refl _) (.cells #[.int .i64 p0, .int .i64 p1, .int .i64 p2, .int .i64 p3, .int .i64 p4, .int .i64 p5, .int .i64 p6, .int .i64 p7, .int .i64 p8] 106))); have HBA2 := hid (HB11.out.alloc HB11.out.size _ : Below w.heap.size w (W11.alloc (.cells #[.int .i64 p0, .int .i64 p1, .int .i64 p2, .int .i64 p3, .int .i64 p4, .int .i64 p5, .int .i64 p6, .int .i64 p7, .int .i64 p8] 106)))
                    have HXN := hid (show (A ++ X).length <= 2048 by
                      rw [List.length_append, <- HM.out]; have h1 := HRA.out.len; rw [<- HSL.out] at h1
                      omega)
                    have HL1 := hid (show ((A ++ X).map Pt.row).length + 1 <= maxLen by rw [List.length_map]; have := HXN.out; unfold maxLen; omega); have HL2 := hid (show (((A ++ X).map Pt.row).length + 1) * 72 <= 140737488355328 by rw [List.length_map]; have := HXN.out; omega); clear HOV
                    go_wp2_with (first
                      | (at_builtin
                         refine wpList_append_rows rfl (.tmp 82) (.tmp 84) 35 rfl w.heap.size 106 i0 _ 9 72 Tryz.underlying35 HI.out HZ0.out HZ1.out HZ2.out rfl (by decide) _ ((A ++ X).map Pt.row) [[.int .i64 p0, .int .i64 p1, .int .i64 p2, .int .i64 p3, .int .i64 p4, .int .i64 p5, .int .i64 p6, .int .i64 p7, .int .i64 p8]] rfl HOA.out W11.heap.size 0 1 1 rfl rfl HRK.out (wide9p _ _ _ _ _ _ _ _ _) HL1.out HL2.out HBA2.out.size ?_; intro v6 W6 hown6 hg6 z6; clear z6; have HO6 := hid (show OwnP W6 w.heap.size v6 (A ++ (X ++ [⟨p0, p1, p2, p3, p4, p5, p6, p7, p8⟩])) by unfold OwnP; rw [<- List.append_assoc, List.map_append]; exact hown6); have HB6N := hid (show Below w.heap.size w W6 from HBA2.out.grown hg6 HBA2.out.size (fun k hk => OwnR.ownBlock HOA.out k hk)); have HR6 := hid (RangeAt.kept HRN.out hg6 (fun e => own_rmap HOA.out HRN.out e.symm rfl) (fun e => own_iter HOA.out HRN.out e.symm rfl))
                         clear hown6 hg6))
                    have HN6 := hid (show RgAt w w.heap.size w7.heap.size i L A v6 W6 (fun z => left z && !z.sameKey (.int .i64 p0)) cnt3 (X ++ [⟨p0, p1, p2, p3, p4, p5, p6, p7, p8⟩]) from {
                      rng := HR6.out
                      has := fun kl h => HRA.out.has kl (by rw [Bool.and_eq_true] at h; exact h.1)
                      own := HO6.out
                      mem := fun u => by
                        rw [List.mem_append, HRA.out.mem, List.mem_singleton, same_int, Bool.and_eq_false_iff, Bool.not_eq_false', beq_iff_eq]; constructor
                        · rintro (⟨h1, h2⟩ | rfl)
                          · exact ⟨h1, Or.inl h2⟩
                          · exact ⟨HPLX.out, Or.inr rfl⟩
                        · rintro ⟨h1, h2 | h2⟩
                          · exact Or.inl ⟨h1, h2⟩
                          · refine Or.inr ?_; obtain ⟨x, hx, rfl⟩ := List.mem_iff_getElem.1 h1; obtain ⟨y, hy, ey⟩ := List.mem_iff_getElem.1 HPLX.out; have hpw := List.pairwise_iff_getElem.1 (keep_ids HGP.out R HLK.out); have hid2 : L[x].id = L[y].id := by rw [ey]; exact h2
                            rcases Nat.lt_trichotomy x y with h | h | h
                            · exact absurd hid2 (hpw x y hx hy h)
                            · subst h; exact ey
                            · exact absurd hid2.symm (hpw y x hy hx h)
                      ids := by
                        rw [List.pairwise_append]; refine ⟨HRA.out.ids, List.pairwise_singleton _ _, fun x hx y hy e => ?_⟩; obtain rfl := List.mem_singleton.1 hy; have h1 := ((HRA.out.mem x).1 hx).2; rw [e, HL2X.out] at h1; exact absurd h1 (by simp)
                      base := HRA.out.base
                      below := HB6N.out })
                    refine ⟨⟨_, cnt3, _, _, rfl, HN6.out⟩, ?_⟩; rw [HR6.out.left_eq, HRA.out.rng.left_eq]; exact HLT.out
              · have d4 : decide ((1024 : Int) < (s : Int) + (k : Int)) = true := decide_eq_true (by omega); have hmn : 1024 < s + k := by omega
                have HR := hid (MergeRes.bad (mergeErr_many HGK.out HTK.out (by rw [<- HLK.out.length_eq, <- HSL.out, <- HM.out]; exact hmany)) (by decide)); go_wp2_with (at_len; refine wpList_lenZ rfl (.tmp 68) 148 rfl Tryz.underlying148 rfl HMK.out ?_); go_ret2; exact ⟨⟨_, _, [], rfl, OwnR.nil _ _ _ _, HR.out⟩, HB8.out⟩
end Go.Proofs.YtcclpdfmmdonpaaGreat
