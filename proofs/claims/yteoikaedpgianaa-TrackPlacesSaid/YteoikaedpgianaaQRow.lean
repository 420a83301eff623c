/- A growing row of the reference's rational numbers. -/
import Derived.Test.YteoikaedpgianaaEnds
import Derived.Test.YteoikaedpgianaaExt
namespace Go.Proofs.Yteoikaedpgianaa
open Go.RowKit Limb

/-- the number that stands in a list's cells from o on -/
def QList (xs : List Value) (o : Nat) (W : World) (q : Rat) (k : Nat) : Prop :=
  ∃ s a p c b r d, xs[o]? = some (.bool s) ∧ xs[o + 1]? = some (.slice a p c) ∧ xs[o + 2]? = some (.slice b r d) ∧ QAt W (.agg #[.bool s, .slice a p c, .slice b r d]) q k
/-- the first m numbers in a row of one's own -/
def QSt (q : Nat → Rat) (k B : Nat) (W : World) (v : Value) (m : Nat) : Prop :=
  ∃ xs, W.ownsRow B 35 3 v m xs ∧ ∀ i, i < m → QList xs (i * 3) W (q i) k
theorem QSt.nil (q : Nat → Rat) (k B : Nat) (W : World) : QSt q k B W (.slice none 0 0) 0 := ⟨[], World.ownsRow_nil _ _ _ _, fun _ hi => absurd hi (Nat.not_lt_zero _)⟩
theorem QSt.grow {q : Nat → Rat} {k B m : Nat} {W W' : World} {v : Value} (h : QSt q k B W v m) (hB : Below W.heap.size W W') : QSt q k B W' v m := by
  obtain ⟨xs, h1, h2⟩ := h
  refine ⟨xs, own_grow hB h1, fun i hi => ?_⟩
  obtain ⟨s, a, p, c, b, r, d, e0, e1, e2, hq⟩ := h2 i hi
  exact ⟨s, a, p, c, b, r, d, e0, e1, e2, hq.grow hB⟩
theorem QSt.stb (q : Nat → Rat) (k B m : Nat) : Stb (fun W v => QSt q k B W v m) := fun _ _ _ hB h => h.grow hB
theorem nat_grown {W W' : World} {v : Value} {n : Nat} {row : Option Nat} (h : NatAt W v n) (hg : W.grownBy W' row) (hr : ∀ g, row = some g → ∃ cur fr, W.heap[g]? = some (.cells cur 35 fr)) : NatAt W' v n := by
  refine World.ownsRow.kept h hg ?_
  by_cases hv : v.ownBlock = none
  · exact Or.inl hv
  · refine Or.inr fun he => ?_
    rcases h.2 with ⟨h1, _⟩ | ⟨g, cap, cur, h1, _, h2, _⟩
    · rw [h1] at hv; exact hv rfl
    · rw [h1] at he
      obtain ⟨cur', fr, h3⟩ := hr g he.symm
      rw [h2] at h3
      cases h3
theorem QAt.grown {W W' : World} {v : Value} {q : Rat} {k : Nat} {row : Option Nat} (h : QAt W v q k) (hg : W.grownBy W' row) (hr : ∀ g, row = some g → ∃ cur fr, W.heap[g]? = some (.cells cur 35 fr)) : QAt W' v q k := by
  obtain ⟨l, l', h1, h2, h3, h4⟩ := h
  exact ⟨l, l', h1, nat_grown h2 hg hr, nat_grown h3 hg hr, h4⟩
theorem own35 {W : World} {B m : Nat} {v : Value} {xs : List Value} (h : W.ownsRow B 35 3 v m xs) : ∀ g, v.ownBlock = some g → ∃ cur fr, W.heap[g]? = some (.cells cur 35 fr) := by
  intro g hg
  rcases h.2 with ⟨h1, _⟩ | ⟨g', cap, cur, h1, _, h2, _⟩
  · rw [h1] at hg; cases hg
  · rw [h1] at hg
    cases hg
    exact ⟨_, _, h2⟩
theorem info35 : (Try.prog.info? 35).map (fun i => (i.zero, i.size, i.bytes)) = some (some (.agg #[.bool false, .slice none 0 0, .slice none 0 0]), 3, 56) := by kernel_rfl
theorem QAt.shape {W : World} {cs : Array Value} {q : Rat} {k : Nat} (h : QAt W (.agg cs) q k) : ∃ s a p c b r d, cs = #[.bool s, .slice a p c, .slice b r d] := by
  obtain ⟨_, _, h1, h2, h3, _⟩ := h
  obtain ⟨_, _, rfl, _, _⟩ := h2.open
  obtain ⟨_, _, rfl, _, _⟩ := h3.open
  cases h1
  exact ⟨_, _, _, _, _, _, _, rfl⟩
theorem three_at {W : World} {g : Nat} {x y z : Value} {fr : Nat × Nat} (h : W.heap[g]? = some (.cells #[x, y, z] 35 fr)) : ∀ j u, [x, y, z][j]? = some u → W.cell? ((⟨g, 0, none⟩ : Addr).add j) = some u := by
  intro j u hj
  have : W.cell? ⟨g, j, none⟩ = (#[x, y, z] : Array Value)[j]? := cell_row h
  have e : (⟨g, 0, none⟩ : Addr).add j = ⟨g, j, none⟩ := by
    simp only [Addr.add, Nat.zero_add]
    split
    · subst_vars; rfl
    · rfl
  rw [e, this]
  simpa using hj
section
variable {Q : Exit → Act → World → Prop}
/-- append(row, number), whose one number lies in a block of its own -/
theorem wpList_append_q {ops : Array Oper} {rest : List Oper} {o : Oper} {a : Act} {w : World} (hgd : o.guard = none) (s x : Operand)
    (ho : o.op = .call { callee := .builtin .append, args := #[s, x], argTypes := #[153, 153] })
    (q : Nat → Rat) (k B m g : Nat) (v : Value) (st : Bool) (a1 b1 : Option Addr) (p1 c1 r1 d1 : Nat) (hs : a.eval s = v) (hown : QSt q k B w v m) (hm : m ≤ 1000)
    (hx : a.eval x = .slice (some ⟨g, 0, none⟩) 1 1) (hg : w.heap[g]? = some (.cells #[.bool st, .slice a1 p1 c1, .slice b1 r1 d1] 35))
    (hq : QAt w (.agg #[.bool st, .slice a1 p1 c1, .slice b1 r1 d1]) (q m) k) (hbase : B ≤ w.heap.size)
    (h : ∀ v' w', QSt q k B w' v' (m + 1) → Below B w w' → (∀ (n : Nat) (cs : Array Value) (fr : Nat × Nat), w.heap[n]? = some (Obj.cells cs 3 fr) → w'.heap[n]? = some (Obj.cells cs 3 fr)) → wpList Try.prog ops Q rest (a.put o.dst v') w') :
    wpList Try.prog ops Q (o :: rest) a w := by
  obtain ⟨i0, hi, hz0, hz1, hz2⟩ := info_parts info35
  obtain ⟨xs, hrow, hqs⟩ := hown
  refine wpList_append_own w hgd s x 153 ho B 35 i0 _ 3 56 Try.underlying153 hi hz0 hz1 hz2 rfl (by decide) v m xs hs hrow ⟨g, 0, none⟩ 1 1 [.bool st, .slice a1 p1 c1, .slice b1 r1 d1] hx rfl (three_at hg) (by intro u hu; simp at hu; rcases hu with rfl | rfl | rfl <;> rfl) (by unfold maxLen; omega) (by omega) hbase ?_
  intro v' w' hown' hgrow hnil
  have hlen := hrow.1
  have ho35 := own35 hrow
  refine h v' w' ⟨_, hown', fun i hi => ?_⟩ ((Below.refl B w).grown hgrow hbase (fun k hk => (hrow.lt k hk).1)) (fun n cs fr hn => ?_)
  rotate_left
  · refine (hgrow.block n (Array.getElem?_eq_some_iff.1 hn).1 (fun he => ?_)).trans hn
    obtain ⟨cur, fr', h3⟩ := ho35 n he.symm
    rw [hn] at h3
    cases h3
  rcases Nat.lt_or_ge i m with hlt | hge
  · obtain ⟨s, a, p, c, b, r, d, e0, e1, e2, hqi⟩ := hqs i hlt
    exact ⟨s, a, p, c, b, r, d, by rw [List.getElem?_append_left (by omega)]; exact e0, by rw [List.getElem?_append_left (by omega)]; exact e1, by rw [List.getElem?_append_left (by omega)]; exact e2, hqi.grown hgrow ho35⟩
  · obtain rfl : i = m := by omega
    exact ⟨st, a1, p1, c1, b1, r1, d1, by rw [List.getElem?_append_right (by omega), hlen, Nat.sub_self]; rfl, by rw [List.getElem?_append_right (by omega), hlen, show i * 3 + 1 - i * 3 = 1 by omega]; rfl, by rw [List.getElem?_append_right (by omega), hlen, show i * 3 + 2 - i * 3 = 2 by omega]; rfl, hq.grown hgrow ho35⟩
end
/-- what the row of four is, laid open -/
theorem QSt.done {q : Nat → Rat} {k B m : Nat} {W : World} {v : Value} (h : QSt q k B W v (m + 1)) : ∃ g C cap, v = .slice (some ⟨g, 0, none⟩) (m + 1) cap ∧ W.heap[g]? = some (.cells C 35) ∧ ∀ j, j < m + 1 → QCells C (j * 3) W (q j) k := by
  obtain ⟨xs, hrow, hqs⟩ := h
  rcases hrow.2 with ⟨_, h2⟩ | ⟨g, cap, cur, h1, _, h2, h3, _, h5, h6⟩
  · omega
  · refine ⟨g, cur, cap, h1, h2, fun j hj => ?_⟩
    obtain ⟨s, a, p, c, b, r, d, e0, e1, e2, hq⟩ := hqs j hj
    have key : ∀ i u, i < (m + 1) * 3 → xs[i]? = some u → cur[i]? = some u := by
      intro i u hi hu
      rw [← h6, List.getElem?_take_of_lt hi, Array.getElem?_toList] at hu
      exact hu
    exact ⟨s, a, p, c, b, r, d, key _ _ (by omega) e0, key _ _ (by omega) e1, key _ _ (by omega) e2, hq⟩
/-- the tail of a region, step by step -/
theorem seq_step {P : Program} {ops : Array Oper} {Q : Exit → Act → World → Prop} {l rest : List Oper} {o : Oper} {a : Act} {w : World} (hl : l = o :: rest)
    (h : ∀ K : Act → World → Prop, (∀ v A' W', A' = a.put o.dst v → SeqS P ops Q rest A' W' → K A' W') → wpList P ops (Exit.then K Q) [o] a w) : SeqS P ops Q l a w := by
  subst hl
  exact h
theorem seq_end {P : Program} {ops : Array Oper} {Q : Exit → Act → World → Prop} {l : List Oper} {a : Act} {w : World} (hl : l = []) (h : Q .normal a w) : SeqS P ops Q l a w := by
  subst hl
  exact h
end Go.Proofs.Yteoikaedpgianaa
