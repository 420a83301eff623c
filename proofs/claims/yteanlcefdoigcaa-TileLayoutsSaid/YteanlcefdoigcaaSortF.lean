/- The three comparisons with which the layout sorts, and what the sort leaves with each of them. -/
import Derived.Test.YteanlcefdoigcaaSortK
import Derived.Test.YteanlcefdoigcaaSortL
import Derived.Test.YteanlcefdoigcaaLayP
import Derived.BigQuiet
namespace Go.Proofs.Yteanlcefdoigcaa
open Go.RowKit Go.Sort Go.Lib Go.Shelf Go.Proofs

def Pt.row (p : Pt) : List Value := [.int .i64 p.id, .int .i64 p.x, .int .i64 p.y, .int .i64 p.zl, .int .i64 p.zh, .int .i64 p.wd, .int .i64 p.nm, .int .i64 p.of, .int .i64 p.cl]
theorem Pt.row_one (p : Pt) : ∀ v ∈ p.row, v.oneCell' = true := fun v hv => by
  simp [Pt.row] at hv
  rcases hv with rfl | rfl | rfl | rfl | rfl | rfl | rfl | rfl | rfl <;> rfl
theorem Pt.row_at (p : Pt) (j : Nat) (hj : j < 9) : p.row[j]? = some (.int .i64 (p.f j)) := by
  match j, hj with
  | 0, _ | 1, _ | 2, _ | 3, _ | 4, _ | 5, _ | 6, _ | 7, _ | 8, _ => rfl
def Ky.row (k : Ky) : List Value := [.int .i64 k.L, .int .i64 k.x, .int .i64 k.y, .int .i64 k.z]
/-- a world that has grown by draws and new blocks alone -/
def Grew (W X : World) : Prop := ∃ q os, X = grow (W.drewN q) os
theorem Grew.refl (W : World) : Grew W W := ⟨0, #[], by rw [grow_empty]; rfl⟩
theorem Grew.alloc {W X : World} (h : Grew W X) (o : Obj) : Grew W (X.alloc o) := by
  obtain ⟨q, os, rfl⟩ := h
  exact ⟨q, _, by rw [alloc_eq_grow, grow_grow]⟩
theorem Grew.drewN {W X : World} (h : Grew W X) (n : Nat) : Grew W (X.drewN n) := by
  obtain ⟨q, os, rfl⟩ := h
  exact ⟨q + n, os, by show grow ((W.drewN q).drewN n) os = _; rw [World.drewN_drewN]⟩
theorem Grew.trans {W X Y : World} (h : Grew W X) (h2 : Grew X Y) : Grew W Y := by
  obtain ⟨q, os, rfl⟩ := h
  obtain ⟨n, os', rfl⟩ := h2
  exact ⟨q + n, os ++ os', by show grow (grow ((W.drewN q).drewN n) os) os' = _; rw [grow_grow, World.drewN_drewN]⟩
def cmpR (p q : Pt) : Int := if rankV p.id < rankV q.id then -1 else if rankV q.id < rankV p.id then 1 else 0
set_option maxRecDepth 100000 in
theorem byRank_any (p q : Pt) (W : World) : Calls Try.prog 95 #[.agg p.row.toArray, .agg q.row.toArray] W fun e w' => e = .returned (.int .i64 (cmpR p q)) ∧ Grew W w' := by
  have hr := fun id W => show Calls Try.prog 23 #[.int .i64 id] W fun e w' => e = .returned (.int .u64 (rankV id)) ∧ w' = W from (xRank_any id W).mono (by rintro r w' ⟨h, rfl⟩; exact ⟨h, rfl⟩)
  have HV := hid (show cmpR p q = if rankV p.id < rankV q.id then -1 else if rankV q.id < rankV p.id then 1 else 0 from rfl)
  unfold Pt.row
  generalize p.id = a at *
  generalize q.id = b at *
  go_enter Try.func95, Try.ntmps95
  go_wp2_with fail
  generalize hWq : (W.alloc _).alloc _ = Wq
  have HG := hid (show Grew W Wq by rw [← hWq]; exact ((Grew.refl W).alloc _).alloc _)
  have q0 : Wq.cell? ⟨W.heap.size, 0, none⟩ = some (.int .i64 a) := by rw [← hWq, cell_row (heap_alloc_past _ _ _ _ (heap_alloc_at _ _ _ rfl))]; rfl
  have q1 : Wq.cell? ⟨W.heap.size + 1, 0, none⟩ = some (.int .i64 b) := by rw [← hWq, cell_row (heap_alloc_at _ _ _ (by simp))]; rfl
  clear hWq
  by_cases h1 : rankV a < rankV b
  · have HX := hid (show cmpR p q = -1 by rw [HV.out, if_pos h1])
    have d1 : decide (rankV a < rankV b) = true := decide_eq_true h1
    go_quiet (first | (go_at_call 23; exact Calls.quiet_of_same (hr _ _)))
    go_wp2_with fail
    go_ret
    exact ⟨by rw [HX.out]; rfl, HG.out.drewN _⟩
  · have d1 : decide (rankV a < rankV b) = false := decide_eq_false h1
    by_cases h2 : rankV b < rankV a
    · have HX := hid (show cmpR p q = 1 by rw [HV.out, if_neg h1, if_pos h2])
      have d2 : decide (rankV b < rankV a) = true := decide_eq_true h2
      go_quiet (first | (go_at_call 23; exact Calls.quiet_of_same (hr _ _)))
      go_wp2_with fail
      go_ret
      exact ⟨by rw [HX.out]; rfl, HG.out.drewN _⟩
    · have HX := hid (show cmpR p q = 0 by rw [HV.out, if_neg h1, if_neg h2])
      have d2 : decide (rankV b < rankV a) = false := decide_eq_false h2
      go_quiet (first | (go_at_call 23; exact Calls.quiet_of_same (hr _ _)))
      go_wp2_with fail
      go_ret
      exact ⟨by rw [HX.out]; rfl, HG.out.drewN _⟩
def cmpI (p q : Pt) : Int := wrap64 (p.id - q.id)
set_option maxRecDepth 100000 in
theorem byId_any (p q : Pt) (W : World) : Calls Try.prog 61 #[.agg p.row.toArray, .agg q.row.toArray] W fun e w' => e = .returned (.int .i64 (cmpI p q)) ∧ Grew W w' := by
  have HV := hid (show cmpI p q = wrap64 (p.id - q.id) from rfl)
  unfold Pt.row
  generalize p.id = a at *
  generalize q.id = b at *
  go_enter Try.func61, Try.ntmps61
  go_wp2_with fail
  go_ret
  exact ⟨by rw [HV.out]; rfl, (by repeat' (first | exact Grew.refl _ | refine Grew.alloc ?_ _ | refine Grew.drewN ?_ _))⟩
/-- the comparison of keys -/
def cmpK (a b : Ky) : Int := if a.L = b.L then (if a.x = b.x then (if a.y = b.y then (if a.z = b.z then 0 else a.z - b.z) else a.y - b.y) else a.x - b.x) else a.L - b.L
def Ky.small (k : Ky) : Prop := (0 ≤ k.L ∧ k.L ≤ 12) ∧ (0 ≤ k.x ∧ k.x < 4096) ∧ (0 ≤ k.y ∧ k.y < 4096) ∧ (0 ≤ k.z ∧ k.z < 4096)
theorem idx160_0 (a b c d e f g h : Int) (w : World) : (Instr.index 160 (.agg #[.int .i64 a, .int .i64 b, .int .i64 c, .int .i64 d, .int .i64 e, .int .i64 f, .int .i64 g, .int .i64 h]) (.int .i64 0)).run Try.prog w = .ok (.agg #[.int .i64 a, .int .i64 b]) w := by kernel_rfl
theorem idx160_1 (a b c d e f g h : Int) (w : World) : (Instr.index 160 (.agg #[.int .i64 a, .int .i64 b, .int .i64 c, .int .i64 d, .int .i64 e, .int .i64 f, .int .i64 g, .int .i64 h]) (.int .i64 1)).run Try.prog w = .ok (.agg #[.int .i64 c, .int .i64 d]) w := by kernel_rfl
theorem idx160_2 (a b c d e f g h : Int) (w : World) : (Instr.index 160 (.agg #[.int .i64 a, .int .i64 b, .int .i64 c, .int .i64 d, .int .i64 e, .int .i64 f, .int .i64 g, .int .i64 h]) (.int .i64 2)).run Try.prog w = .ok (.agg #[.int .i64 e, .int .i64 f]) w := by kernel_rfl
theorem idx160_3 (a b c d e f g h : Int) (w : World) : (Instr.index 160 (.agg #[.int .i64 a, .int .i64 b, .int .i64 c, .int .i64 d, .int .i64 e, .int .i64 f, .int .i64 g, .int .i64 h]) (.int .i64 3)).run Try.prog w = .ok (.agg #[.int .i64 g, .int .i64 h]) w := by kernel_rfl
set_option maxRecDepth 100000 in
theorem order_any (a b : Ky) (ha : a.small) (hb : b.small) (W : World) : Calls Try.prog 98 #[.agg a.row.toArray, .agg b.row.toArray] W fun e w' => e = .returned (.int .i64 (cmpK a b)) ∧ Grew W w' := by
  obtain ⟨aL, ax, ay, az⟩ := a
  obtain ⟨bL, bx, b_y, bz⟩ := b
  have HV := hid (show cmpK ⟨aL, ax, ay, az⟩ ⟨bL, bx, b_y, bz⟩ = if aL = bL then (if ax = bx then (if ay = b_y then (if az = bz then 0 else az - bz) else ay - b_y) else ax - bx) else aL - bL from rfl)
  simp only [Ky.small] at ha hb
  simp only [Ky.row]
  have hi0 := idx160_0
  have hi1 := idx160_1
  have hi2 := idx160_2
  have hi3 := idx160_3
  go_enter Try.func98, Try.ntmps98
  go_wp2_with fail
  refine wp_loop_rounds 5 ?_
  rw [rounds_succ]
  by_cases h1 : aL = bL
  · subst h1
    go_wp2_with fail
    rw [rounds_succ]
    by_cases h2 : ax = bx
    · subst h2
      go_wp2_with fail
      rw [rounds_succ]
      by_cases h3 : ay = b_y
      · subst h3
        go_wp2_with fail
        rw [rounds_succ]
        by_cases h4 : az = bz
        · subst h4
          have HX := hid (show cmpK ⟨aL, ax, ay, az⟩ ⟨aL, ax, ay, az⟩ = 0 by rw [HV.out]; simp)
          go_wp2_with fail
          rw [rounds_succ]
          go_wp2_with fail
          go_ret
          exact ⟨by rw [HX.out]; rfl, (by repeat' (first | exact Grew.refl _ | refine Grew.alloc ?_ _ | refine Grew.drewN ?_ _))⟩
        · have HX := hid (show cmpK ⟨aL, ax, ay, az⟩ ⟨aL, ax, ay, bz⟩ = az - bz by rw [HV.out]; simp [h4])
          have d1 : (az == bz) = false := by simp [h4]
          go_wp2_with fail
          go_ret
          exact ⟨by rw [HX.out]; rfl, (by repeat' (first | exact Grew.refl _ | refine Grew.alloc ?_ _ | refine Grew.drewN ?_ _))⟩
      · have HX := hid (show cmpK ⟨aL, ax, ay, az⟩ ⟨aL, ax, b_y, bz⟩ = ay - b_y by rw [HV.out]; simp [h3])
        have d1 : (ay == b_y) = false := by simp [h3]
        go_wp2_with fail
        go_ret
        exact ⟨by rw [HX.out]; rfl, (by repeat' (first | exact Grew.refl _ | refine Grew.alloc ?_ _ | refine Grew.drewN ?_ _))⟩
    · have HX := hid (show cmpK ⟨aL, ax, ay, az⟩ ⟨aL, bx, b_y, bz⟩ = ax - bx by rw [HV.out]; simp [h2])
      have d1 : (ax == bx) = false := by simp [h2]
      go_wp2_with fail
      go_ret
      exact ⟨by rw [HX.out]; rfl, (by repeat' (first | exact Grew.refl _ | refine Grew.alloc ?_ _ | refine Grew.drewN ?_ _))⟩
  · have HX := hid (show cmpK ⟨aL, ax, ay, az⟩ ⟨bL, bx, b_y, bz⟩ = aL - bL by rw [HV.out, if_neg h1])
    have d1 : (aL == bL) = false := by simp [h1]
    go_wp2_with fail
    go_ret
    exact ⟨by rw [HX.out]; rfl, (by repeat' (first | exact Grew.refl _ | refine Grew.alloc ?_ _ | refine Grew.drewN ?_ _))⟩
/-- a tile in memory: its key and the slice of its points -/
structure Te where
  key : Ky
  v : Value
  pts : List Pt
instance : Inhabited Te := ⟨⟨default, .slice none 0 0, []⟩⟩
def Te.row (e : Te) : List Value := e.key.row ++ [e.v]
def Te.tl (e : Te) : Tl := ⟨e.key, e.pts⟩
def Te.ok (e : Te) : Prop := e.key.small ∧ e.v.oneCell' = true
set_option maxRecDepth 100000 in
theorem byKey_any (a b : Te) (ha : a.ok) (hb : b.ok) (W : World) : Calls Try.prog 97 #[.agg a.row.toArray, .agg b.row.toArray] W fun e w' => e = .returned (.int .i64 (cmpK a.key b.key)) ∧ Grew W w' := by
  obtain ⟨⟨aL, ax, ay, az⟩, av, ap⟩ := a
  obtain ⟨⟨bL, bx, b_y, bz⟩, bv, bp⟩ := b
  have hO := fun W => order_any ⟨aL, ax, ay, az⟩ ⟨bL, bx, b_y, bz⟩ ha.1 hb.1 W
  have h1 := ha.2
  have h2 := hb.2
  simp only [Ky.row, Te.row, List.cons_append, List.nil_append] at hO h1 h2 ⊢
  generalize cmpK ⟨aL, ax, ay, az⟩ ⟨bL, bx, b_y, bz⟩ = r at *
  clear ha hb
  go_enter Try.func97, Try.ntmps97
  go_wp2_with fail
  refine (hO _).mono ?_
  rintro e w1 ⟨rfl, hg⟩
  have HG := hid (((Grew.refl W).alloc _).alloc _ |>.trans hg)
  clear hg hO
  go_wp2_with fail
  go_ret
  exact ⟨rfl, HG.out⟩
theorem cmpR_lt (p q : Pt) : ltOf cmpR p q = decide (rankV p.id < rankV q.id) := by
  unfold ltOf cmpR
  by_cases h1 : rankV p.id < rankV q.id
  · simp [h1]
  · by_cases h2 : rankV q.id < rankV p.id <;> simp [h1, h2]
theorem cmpR_swo : SWO (ltOf cmpR) where
  irrefl x := by rw [cmpR_lt]; simp
  trans x y z h1 h2 := by rw [cmpR_lt] at *; simp at *; omega
  ntrans x y z h1 h2 := by rw [cmpR_lt] at *; simp at *; omega
theorem cmpK_lt (a b : Ky) : cmpK a b < 0 ↔ a.lt b := by
  unfold cmpK Ky.lt
  by_cases h1 : a.L = b.L
  · rw [if_pos h1]
    by_cases h2 : a.x = b.x
    · rw [if_pos h2]
      by_cases h3 : a.y = b.y
      · rw [if_pos h3]
        by_cases h4 : a.z = b.z
        · rw [if_pos h4]; omega
        · rw [if_neg h4]; omega
      · rw [if_neg h3]; omega
    · rw [if_neg h2]; omega
  · rw [if_neg h1]; omega
theorem Ky.not_lt_trans {a b c : Ky} (h : ¬ a.lt b) (h2 : ¬ b.lt c) : ¬ a.lt c := by unfold Ky.lt at *; omega
/-- points with an Id that is one; tiles with a key that is one -/
def PtG : Type := { p : Pt // 0 ≤ p.id ∧ p.id ≤ 1152921504606846976 }
def TeG : Type := { e : Te // e.ok }
instance : Inhabited PtG := ⟨⟨default, by decide⟩⟩
instance : Inhabited TeG := ⟨⟨default, ⟨by unfold Ky.small; decide, rfl⟩⟩⟩
theorem cmpI_lt (p q : PtG) : ltOf (fun x y : PtG => cmpI x.1 y.1) p q = decide (p.1.id < q.1.id) := by
  obtain ⟨p, hp⟩ := p
  obtain ⟨q, hq⟩ := q
  have e : cmpI p q = p.id - q.id := by unfold cmpI wrap64; omega
  show decide (cmpI p q < 0) = decide (p.id < q.id)
  rw [e]
  simp
  omega
theorem cmpI_swo : SWO (ltOf (fun x y : PtG => cmpI x.1 y.1)) where
  irrefl x := by rw [cmpI_lt]; simp
  trans x y z h1 h2 := by rw [cmpI_lt] at *; simp at *; omega
  ntrans x y z h1 h2 := by rw [cmpI_lt] at *; simp at *; omega
theorem cmpT_lt (a b : TeG) : ltOf (fun x y : TeG => cmpK x.1.key y.1.key) a b = true ↔ a.1.key.lt b.1.key := by
  unfold ltOf
  simp [cmpK_lt]
theorem cmpT_swo : SWO (ltOf (fun x y : TeG => cmpK x.1.key y.1.key)) where
  irrefl x := by
    rw [Bool.eq_false_iff, Ne, cmpT_lt]
    exact Ky.lt_irrefl _
  trans x y z h1 h2 := by rw [cmpT_lt] at *; exact Ky.lt_trans h1 h2
  ntrans x y z h1 h2 := by
    rw [Bool.eq_false_iff, Ne, cmpT_lt] at *
    exact Ky.not_lt_trans h1 h2
theorem pmap_val {α : Type} {p : α → Prop} : ∀ (l : List α) (h : ∀ a ∈ l, p a), (l.pmap (fun a ha => (⟨a, ha⟩ : { a : α // p a })) h).map (·.1) = l
  | [], _ => rfl
  | a :: l, h => by
    rw [List.pmap_cons, List.map_cons, pmap_val l]
theorem sortRank_any (v : Value) (l : List Pt) (base : Nat) (W : World) (h : OwnR W base 36 9 v (l.map Pt.row)) (hn : l.length < 4611686018427387904) :
    Calls Try.prog 60 #[v, .func (.func 95) #[] #[]] W fun e w' => e = .returned (.tuple #[]) ∧ ∃ l' : List Pt, l'.Perm l ∧ l'.Pairwise (fun p q => ¬ rankV q.id < rankV p.id) ∧ OwnR w' base 36 9 v (l'.map Pt.row) ∧ W.grownBy w' v.ownBlock := by
  have hc := sort_own sortPtL 9 Try.isAgg36 Try.sizeOf36 Pt.row (fun _ => rfl) Pt.row_one cmpR cmpR_swo 95 #[] (enters_of Try.func95 (by kernel_rfl) rfl) (fun _ _ _ _ _ _ _ x y => byRank_any x y _) W base 36 v l h hn
  refine Calls.mono (show Calls Try.prog 60 _ _ _ from hc) ?_
  rintro e w' ⟨rfl, l', h1, h2, h3, h4⟩
  refine ⟨rfl, l', h1, h2.imp ?_, h3, h4⟩
  intro a b hab
  rw [cmpR_lt] at hab
  simpa using hab
theorem sortId_any (v : Value) (l : List Pt) (base : Nat) (W : World) (h : OwnR W base 36 9 v (l.map Pt.row)) (hn : l.length < 4611686018427387904) (hid : ∀ p ∈ l, 0 ≤ p.id ∧ p.id ≤ 1152921504606846976) :
    Calls Try.prog 60 #[v, .func (.func 61) #[] #[]] W fun e w' => e = .returned (.tuple #[]) ∧ ∃ l' : List Pt, l'.Perm l ∧ l'.Pairwise (fun p q => ¬ q.id < p.id) ∧ OwnR w' base 36 9 v (l'.map Pt.row) ∧ W.grownBy w' v.ownBlock := by
  obtain ⟨lg, hlg⟩ : ∃ lg : List PtG, lg.map (·.1) = l := ⟨_, pmap_val l hid⟩
  subst hlg
  rw [List.length_map] at hn
  have h' : OwnR W base 36 9 v (lg.map (fun p : PtG => p.1.row)) := by rw [List.map_map] at h; exact h
  have hc := sort_own sortPtL 9 Try.isAgg36 Try.sizeOf36 (fun p : PtG => p.1.row) (fun _ => rfl) (fun p => Pt.row_one p.1) (fun x y : PtG => cmpI x.1 y.1) cmpI_swo 61 #[] (enters_of Try.func61 (by kernel_rfl) rfl) (fun _ _ _ _ _ _ _ x y => byId_any x.1 y.1 _) W base 36 v lg h' hn
  refine Calls.mono (show Calls Try.prog 60 _ _ _ from hc) ?_
  rintro e w' ⟨rfl, l', h1, h2, h3, h4⟩
  refine ⟨rfl, l'.map (·.1), h1.map _, ?_, by rw [List.map_map]; exact h3, h4⟩
  rw [List.pairwise_map]
  refine h2.imp ?_
  intro a b hab
  rw [cmpI_lt] at hab
  simpa using hab
theorem Te.row_one (e : Te) (h : e.ok) : ∀ v ∈ e.row, v.oneCell' = true := fun v hv => by
  simp [Te.row, Ky.row] at hv
  rcases hv with rfl | rfl | rfl | rfl | rfl
  · rfl
  · rfl
  · rfl
  · rfl
  · exact h.2
theorem sortKey_any (v : Value) (l : List Te) (base : Nat) (W : World) (h : OwnR W base 49 5 v (l.map Te.row)) (hn : l.length < 4611686018427387904) (hok : ∀ e ∈ l, e.ok) :
    Calls Try.prog 96 #[v, .func (.func 97) #[] #[]] W fun e w' => e = .returned (.tuple #[]) ∧ ∃ l' : List Te, l'.Perm l ∧ l'.Pairwise (fun a b => ¬ b.key.lt a.key) ∧ OwnR w' base 49 5 v (l'.map Te.row) ∧ W.grownBy w' v.ownBlock := by
  obtain ⟨lg, hlg⟩ : ∃ lg : List TeG, lg.map (·.1) = l := ⟨_, pmap_val l hok⟩
  subst hlg
  rw [List.length_map] at hn
  have h' : OwnR W base 49 5 v (lg.map (fun p : TeG => p.1.row)) := by rw [List.map_map] at h; exact h
  have hc := sort_own sortTlL 5 Try.isAgg49 Try.sizeOf49 (fun p : TeG => p.1.row) (fun _ => rfl) (fun p => Te.row_one p.1 p.2) (fun x y : TeG => cmpK x.1.key y.1.key) cmpT_swo 97 #[] (enters_of Try.func97 (by kernel_rfl) rfl) (fun _ _ _ _ _ _ _ x y => byKey_any x.1 y.1 x.2 y.2 _) W base 49 v lg h' hn
  refine Calls.mono (show Calls Try.prog 96 _ _ _ from hc) ?_
  rintro e w' ⟨rfl, l', h1, h2, h3, h4⟩
  refine ⟨rfl, l'.map (·.1), h1.map _, ?_, by rw [List.map_map]; exact h3, h4⟩
  rw [List.pairwise_map]
  refine h2.imp ?_
  intro a b hab
  rw [Bool.eq_false_iff, Ne, cmpT_lt] at hab
  exact hab
end Go.Proofs.Yteanlcefdoigcaa
