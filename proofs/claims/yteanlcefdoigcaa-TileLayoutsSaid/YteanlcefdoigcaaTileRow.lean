/- One cell of a row of the call's own; a tile's slice turned within its row; the steps at a drawn region's tail. -/
import Derived.Test.YteanlcefdoigcaaRLev
import Derived.Test.YteanlcefdoigcaaExtU
namespace Go.Proofs.Yteanlcefdoigcaa
open Go.RowKit Go.Sort

theorem ptL_cell {C : Array Value} {o j : Nat} {r : List Value} {u : Value} (hC : ∀ i, i < r.length → C[o + i]? = r[i]?) (hj : j < r.length) : ptL C (o + j) [u] = ptL C o (r.set j u) := by
  have hsz : o + r.length ≤ C.size := by
    have h := hC (r.length - 1) (by omega)
    rw [List.getElem?_eq_getElem (by omega)] at h
    have := (Array.getElem?_eq_some_iff.1 h).1
    omega
  refine Array.ext_getElem? fun x => ?_
  by_cases hx : o ≤ x ∧ x < o + r.length
  · obtain ⟨i, rfl⟩ : ∃ i, x = o + i := ⟨x - o, by omega⟩
    rw [ptL_in (r.set j u) C o i (by rw [List.length_set]; exact hsz) (by rw [List.length_set]; omega)]
    by_cases hij : i = j
    · subst hij
      have h := ptL_in [u] C (o + i) 0 (by simp; omega) (by simp)
      rw [Nat.add_zero] at h
      rw [h, List.getElem?_set_self hj]
      rfl
    · rw [ptL_out [u] C (o + j) (o + i) (by simp; omega), List.getElem?_set_ne (Ne.symm hij)]
      exact hC i (by omega)
  · rw [ptL_out [u] C (o + j) x (by simp; omega), ptL_out (r.set j u) C o x (by rw [List.length_set]; omega)]
theorem own_row {W : World} {base t sz g n cap i : Nat} {l : List (List Value)} {cur : Array Value} {r : List Value} (h : OwnR W base t sz (.slice (some ⟨g, 0, none⟩) n cap) l) (hc : W.heap[g]? = some (.cells cur t)) (hi : l[i]? = some r) :
    ∀ j, j < sz → cur[i * sz + j]? = r[j]? := fun j hj => by
  obtain ⟨hn, cur', hB, hc', hle, hm, hcs, htk⟩ := own_parts h
  rw [hc] at hc'
  injection hc' with hc'
  injection hc' with hc' _
  subst hc'
  have hil : i < l.length := (List.getElem?_eq_some_iff.1 hi).1
  have hk : i * sz + j < l.length * sz := by
    have : (i + 1) * sz ≤ l.length * sz := Nat.mul_le_mul_right sz hil
    rw [Nat.add_mul] at this
    omega
  rw [← h.1.at hi j hj, ← htk, List.getElem?_take_of_lt hk, Array.getElem?_toList]
theorem own_cell {W : World} {base t sz g n cap i j : Nat} {l : List (List Value)} {cur : Array Value} {r : List Value} {u : Value} (h : OwnR W base t sz (.slice (some ⟨g, 0, none⟩) n cap) l) (hc : W.heap[g]? = some (.cells cur t)) (hi : l[i]? = some r) (hj : j < sz) (hu : u.oneCell' = true) :
    OwnR (W.setRow g (ptL cur (i * sz + j) [u])) base t sz (.slice (some ⟨g, 0, none⟩) n cap) (l.set i (r.set j u)) := by
  have hil : i < l.length := (List.getElem?_eq_some_iff.1 hi).1
  obtain ⟨hrl, hr1⟩ := h.1 r (List.mem_of_getElem? hi)
  rw [ptL_cell (r := r) (fun k hk => own_row h hc hi k (by omega)) (by omega)]
  refine own_set h hc hil (by rw [List.length_set]; exact hrl) (fun v hv => ?_)
  rcases List.mem_or_eq_of_mem_set hv with g | g
  · exact hr1 v g
  · subst g; exact hu
/-- a tile's slice turned -/
theorem tiles_set {W W' : World} {base g n cap i : Nat} {E : List Te} {e : Te} {cur : Array Value} {v : Value} {pts : List Pt} (h : TilesIn W base (.slice (some ⟨g, 0, none⟩) n cap) E) (hb : Below W.heap.size W W') (hi : E[i]? = some e) (hc : W'.heap[g]? = some (.cells cur 49)) (hv : OwnP W' base v pts) :
    TilesIn (W'.setRow g (ptL cur (i * 5 + 4) [v])) base (.slice (some ⟨g, 0, none⟩) n cap) (E.set i ⟨e.key, v, pts⟩) := by
  have hv1 : v.oneCell' = true := by
    obtain ⟨a, c, rfl⟩ := hv.slice
    rfl
  have h1 := OwnR.grow' h.1 hb
  have h2 := own_cell h1 hc (i := i) (j := 4) (r := e.row) (u := v) (by rw [List.getElem?_map, hi]; rfl) (by decide) hv1
  have er : e.row.set 4 v = Te.row ⟨e.key, v, pts⟩ := rfl
  rw [er, ← List.map_set] at h2
  have ht := turned_row W' g (ptL cur (i * 5 + 4) [v])
  have hne : ∀ (u : Value) (l : List Pt), OwnP W' base u l → ∀ b, u.ownBlock = some b → ¬ b = g := fun u l hu b hb2 e => by
    subst e
    obtain ⟨c1, q1⟩ := OwnR.typed hu hb2
    rw [hc] at q1
    injection q1 with q1
    injection q1 with _ q1
    exact absurd q1 (by decide)
  refine ⟨h2, fun f hf => ?_⟩
  rcases List.mem_or_eq_of_mem_set hf with q | q
  · exact OwnR.turned (OwnR.grow' (h.2 f q) hb) ht (hne _ _ (OwnR.grow' (h.2 f q) hb))
  · subst q
    exact OwnR.turned hv ht (hne _ _ hv)
theorem TilesIn.grow {W W' : World} {base : Nat} {v : Value} {E : List Te} (h : TilesIn W base v E) (hb : Below W.heap.size W W') : TilesIn W' base v E := ⟨OwnR.grow' h.1 hb, fun e he => OwnR.grow' (h.2 e he) hb⟩
theorem TilesIn.slice {W : World} {base : Nat} {v : Value} {E : List Te} (h : TilesIn W base v E) : ∃ a cap, v = .slice a E.length cap := by
  have := OwnR.slice h.1
  rwa [List.length_map] at this
/-- at a drawn region's tail -/
theorem seq_step {P : Program} {ops : Array Oper} {Q : Exit → Act → World → Prop} {l rest : List Oper} {o : Oper} {a : Act} {w : World} (hl : l = o :: rest)
    (h : ∀ K : Act → World → Prop, (∀ v A' W', A' = a.put o.dst v → SeqS P ops Q rest A' W' → K A' W') → wpList P ops (Exit.then K Q) [o] a w) : SeqS P ops Q l a w := by
  subst hl
  exact h
theorem seq_end {P : Program} {ops : Array Oper} {Q : Exit → Act → World → Prop} {l : List Oper} {a : Act} {w : World} (hl : l = []) (h : Q .normal a w) : SeqS P ops Q l a w := by
  subst hl
  exact h
/-- a pointer to a new key -/
def FreshK (B : Nat) (W : World) (v : Value) : Prop := ∃ g, v = .pointer (some ⟨g, 0, none⟩) ∧ B ≤ g ∧ W.heap[g]? = some (.cells #[.int .i64 0, .int .i64 0, .int .i64 0, .int .i64 0] 39)
theorem FreshK.stb (B : Nat) : Stb (FreshK B) := fun _ _ _ hB ⟨g, h1, h2, h3⟩ => ⟨g, h1, h2, heap_still hB h3⟩
theorem flat39t : flatOf Try.prog 10 39 = some [some .i64, some .i64, some .i64, some .i64] := by kernel_rfl
theorem sameT_four (a b c d e f g h : Int) : sameL [.int .i64 a, .int .i64 b, .int .i64 c, .int .i64 d] [.int .i64 e, .int .i64 f, .int .i64 g, .int .i64 h] = (decide (a = e) && (decide (b = f) && (decide (c = g) && decide (d = h)))) := by
  simp only [sameL, sameV, Bool.and_true]
  congr 1
set_option maxRecDepth 100000 in
theorem eqKeys (a b : Ky) (r : Bool) (hr : r = decide (a = b)) (W : World) : (Op.equalIn 10000 39 (.agg #[.int .i64 a.L, .int .i64 a.x, .int .i64 a.y, .int .i64 a.z]) (.agg #[.int .i64 b.L, .int .i64 b.x, .int .i64 b.y, .int .i64 b.z])).run Try.prog W = .ok r W := by
  have h := equal_struct Try.underlying39 (flat39t) [.int .i64 a.L, .int .i64 a.x, .int .i64 a.y, .int .i64 a.z] [.int .i64 b.L, .int .i64 b.x, .int .i64 b.y, .int .i64 b.z] rfl rfl W
  refine h.trans ?_
  rw [sameT_four, hr]
  congr 1
  rw [Bool.eq_iff_iff]
  simp only [Bool.and_eq_true, decide_eq_true_eq]
  constructor
  · rintro ⟨h0, h1, h2, h3⟩
    exact Ky.ext' h0 h1 h2 h3
  · intro h
    subst h
    exact ⟨rfl, rfl, rfl, rfl⟩
end Go.Proofs.Yteanlcefdoigcaa
