/- An exchange of two elements: a drawn region of values and two stores, of which the second one's target may be reckoned behind the first store. Rows of the call's own with an element stored. -/
import Derived.Test.YteanlcefdoigcaaLawL
import Derived.Test.YteanlcefdoigcaaExt
namespace Go.Proofs.Yteanlcefdoigcaa
open Go.RowKit

/-- two stores (at s1, then at s2) beside values; ps: what the first store waits for; W0, W1, W2: the worlds ahead of, between and behind the stores -/
structure TwoT (W0 W1 W2 : World) (s1 s2 : Nat) (ps : List Nat) (vs : List Value) (L : Nat → Bool) (us : Nat → Value) (W : World) : Prop where
  vals : ∀ j, L j = true → j ≠ s1 → j ≠ s2 → us j = vs.getD j undef
  ord : L s2 = true → L s1 = true
  pre : L s1 = true → ∀ j ∈ ps, L j = true
  wld : W = if L s2 = true then W2 else if L s1 = true then W1 else W0
section
variable {W0 W1 W2 W : World} {s1 s2 : Nat} {ps : List Nat} {vs : List Value} {L : Nat → Bool} {us : Nat → Value} {v : Value}
theorem TwoT.start : TwoT W0 W1 W2 s1 s2 ps vs (fun _ => false) us W0 := ⟨fun _ h => (Bool.false_ne_true h).elim, fun h => (Bool.false_ne_true h).elim, fun h => (Bool.false_ne_true h).elim, rfl⟩
theorem TwoT.pure (k : Nat) (h : TwoT W0 W1 W2 s1 s2 ps vs L us W) (h1 : k ≠ s1) (h2 : k ≠ s2) (hv : v = vs.getD k undef) : TwoT W0 W1 W2 s1 s2 ps vs (fun j => j == k || L j) (updF us k v) W := by
  have e1 : (s1 == k || L s1) = L s1 := by rw [show (s1 == k) = false from beq_false_of_ne (Ne.symm h1), Bool.false_or]
  have e2 : (s2 == k || L s2) = L s2 := by rw [show (s2 == k) = false from beq_false_of_ne (Ne.symm h2), Bool.false_or]
  refine ⟨fun j hj j1 j2 => ?_, fun g => ?_, fun g j hj => ?_, ?_⟩
  · by_cases hjk : j = k
    · subst hjk; simp [updF, hv]
    · have e : updF us k v j = us j := by simp [updF, hjk]
      rw [e]
      exact h.vals j (by simpa [hjk] using hj) j1 j2
  · simp only [e1, e2] at g ⊢
    exact h.ord g
  · simp only [e1] at g
    rw [h.pre g j hj, Bool.or_true]
  · simp only [e1, e2]
    exact h.wld
theorem TwoT.none2 (h : TwoT W0 W1 W2 s1 s2 ps vs L us W) (h1 : L s1 = false) : L s2 = false := by
  cases g : L s2
  · rfl
  · rw [h.ord g] at h1; cases h1
/-- ahead of the first store, which waits for k -/
theorem TwoT.at0 (h : TwoT W0 W1 W2 s1 s2 ps vs L us W) {k : Nat} (hk : k ∈ ps) (hL : L k = false) : W = W0 := by
  have h1 : L s1 = false := by
    cases g : L s1
    · rfl
    · rw [h.pre g k hk] at hL; cases hL
  have := h.wld
  rw [h.none2 h1, h1] at this
  simpa using this
theorem TwoT.fst (h : TwoT W0 W1 W2 s1 s2 ps vs L us W) (h1 : L s1 = false) (hp : ∀ j ∈ ps, L j = true) (hne : s1 ≠ s2) : W = W0 ∧ TwoT W0 W1 W2 s1 s2 ps vs (fun j => j == s1 || L j) (updF us s1 v) W1 := by
  have h2 := h.none2 h1
  refine ⟨by have := h.wld; rw [h2, h1] at this; simpa using this, fun j hj j1 j2 => ?_, fun _ => by simp, fun _ j hj => by rw [hp j hj, Bool.or_true], ?_⟩
  · have e : updF us s1 v j = us j := by simp [updF, j1]
    rw [e]
    exact h.vals j (by simpa [j1] using hj) j1 j2
  · have e2 : (s2 == s1 || L s2) = false := by rw [show (s2 == s1) = false from beq_false_of_ne (Ne.symm hne), h2]; rfl
    simp [e2]
theorem TwoT.snd (h : TwoT W0 W1 W2 s1 s2 ps vs L us W) (h1 : L s1 = true) (h2 : L s2 = false) : W = W1 ∧ TwoT W0 W1 W2 s1 s2 ps vs (fun j => j == s2 || L j) (updF us s2 v) W2 := by
  refine ⟨by have := h.wld; rw [h2, h1] at this; simpa using this, fun j hj j1 j2 => ?_, fun _ => ?_, fun _ j hj => ?_, by simp⟩
  · have e : updF us s2 v j = us j := by simp [updF, j2]
    rw [e]
    exact h.vals j (by simpa [j2] using hj) j1 j2
  · rw [h1, Bool.or_true]
  · rw [h.pre h1 j hj, Bool.or_true]
end

theorem own_parts {W : World} {base t sz g n cap : Nat} {l : List (List Value)} (h : OwnR W base t sz (.slice (some ⟨g, 0, none⟩) n cap) l) :
    n = l.length ∧ ∃ cur : Array Value, base ≤ g ∧ W.heap[g]? = some (.cells cur t) ∧ l.length ≤ cap ∧ cap ≤ maxLen ∧ cur.size = cap * sz ∧ cur.toList.take (l.length * sz) = l.flatten := by
  rcases h.2.2 with ⟨h1, _⟩ | ⟨g', cap', cur, h1, hB, h2, h3, h4, h5, h6⟩
  · cases h1
  · injection h1 with h1 hn hc
    injection h1 with h1
    injection h1 with h1 _
    subst h1 hc
    exact ⟨hn, cur, hB, h2, h3, h4, h5, h6⟩
theorem own_set {W : World} {base t sz g n cap i : Nat} {l : List (List Value)} {cur : Array Value} {r : List Value} (h : OwnR W base t sz (.slice (some ⟨g, 0, none⟩) n cap) l) (hc : W.heap[g]? = some (.cells cur t)) (hi : i < l.length) (hr : r.length = sz) (h1 : ∀ u ∈ r, u.oneCell' = true) :
    OwnR (W.setRow g (ptL cur (i * sz) r)) base t sz (.slice (some ⟨g, 0, none⟩) n cap) (l.set i r) := by
  obtain ⟨hn, cur', hB, hc', hle, hm, hcs, htk⟩ := own_parts h
  rw [hc] at hc'
  injection hc' with hc'
  injection hc' with hc' _
  subst hc'
  have hw : Wide sz (l.set i r) := fun x hx => by
    rcases List.mem_or_eq_of_mem_set hx with g | g
    · exact h.1 x g
    · subst g; exact ⟨hr, h1⟩
  refine ⟨hw, by rw [List.length_set, hw.length, List.length_set], ?_⟩
  refine Or.inr ⟨g, cap, _, by rw [List.length_set, hn], hB, setRow_heap _ _ _ _ _ _ hc, by rw [List.length_set]; exact hle, hm, by rw [ptL_size]; exact hcs, ?_⟩
  rw [List.length_set]
  have hbd : (i + 1) * sz ≤ l.length * sz := Nat.mul_le_mul_right sz hi
  have hbd2 : l.length * sz ≤ cap * sz := Nat.mul_le_mul_right sz hle
  rw [Nat.add_mul] at hbd
  refine List.ext_getElem? fun k => ?_
  by_cases hk : k < l.length * sz
  · have s0 : 0 < sz := by
      rcases Nat.eq_zero_or_pos sz with e | e
      · subst e; simp at hk
      · exact e
    have hd : k / sz < l.length := Nat.div_lt_of_lt_mul (by rw [Nat.mul_comm]; exact hk)
    have hmm : k % sz < sz := Nat.mod_lt _ s0
    have e : k / sz * sz + k % sz = k := by rw [Nat.mul_comm]; exact Nat.div_add_mod k sz
    rw [List.getElem?_take_of_lt hk, Array.getElem?_toList]
    have hold : cur[k]? = l.flatten[k]? := by rw [← htk, List.getElem?_take_of_lt hk, Array.getElem?_toList]
    by_cases hki : k / sz = i
    · have h2 := hw.at (i := i) (r := r) (List.getElem?_set_self hi) (k % sz) hmm
      rw [hki] at e
      rw [e] at h2
      rw [h2]
      have h3 := ptL_in r cur (i * sz) (k % sz) (by rw [hr, hcs]; omega) (by rw [hr]; exact hmm)
      rw [e] at h3
      exact h3
    · have h2 := hw.at (i := k / sz) (r := l[k / sz]) (by rw [List.getElem?_set_ne (Ne.symm hki), List.getElem?_eq_getElem hd]) (k % sz) hmm
      have h3 := h.1.at (List.getElem?_eq_getElem hd) (k % sz) hmm
      rw [e] at h2 h3
      rw [h2, ← h3, ← hold]
      refine ptL_out r cur (i * sz) k ?_
      rw [hr]
      rcases Nat.lt_or_ge (k / sz) i with q | q
      · left
        have : (k / sz + 1) * sz ≤ i * sz := Nat.mul_le_mul_right sz q
        rw [Nat.add_mul] at this
        omega
      · right
        have : (i + 1) * sz ≤ k / sz * sz := Nat.mul_le_mul_right sz (by omega)
        rw [Nat.add_mul] at this
        omega
  · rw [List.getElem?_eq_none (by simp; omega), List.getElem?_eq_none (by rw [hw.length, List.length_set]; omega)]
/-- two elements of a list change places -/
def swL {α : Type} (l : List α) (i j : Nat) : List α := match l[i]?, l[j]? with | some x, some y => (l.set i y).set j x | _, _ => l
theorem swL_some {α : Type} {l : List α} {i j : Nat} {x y : α} (hi : l[i]? = some x) (hj : l[j]? = some y) : swL l i j = (l.set i y).set j x := by
  unfold swL
  rw [hi, hj]
theorem swL_perm {α : Type} [Inhabited α] (l : List α) (i j : Nat) : (swL l i j).Perm l := by
  unfold swL
  split
  · rename_i x y hx hy
    obtain ⟨hi, ei⟩ := List.getElem?_eq_some_iff.1 hx
    obtain ⟨hj, ej⟩ := List.getElem?_eq_some_iff.1 hy
    have h := Go.Sort.swp_permIn l.toArray 0 l.toArray.size i j (Nat.zero_le _) (by simpa using hi) (Nat.zero_le _) (by simpa using hj) (Nat.le_refl _)
    have h2 := perm_list h
    have e : (Go.Sort.swp l.toArray i j).toList = (l.set i y).set j x := by
      unfold Go.Sort.swp
      rw [getElem!_pos l.toArray i (by simpa using hi), getElem!_pos l.toArray j (by simpa using hj)]
      simp [ei, ej]
    rw [e] at h2
    exact h2
  · exact List.Perm.refl _
theorem swL_length {α : Type} [Inhabited α] (l : List α) (i j : Nat) : (swL l i j).length = l.length := (swL_perm l i j).length_eq
/-- append of a slice that lies somewhere, or of an empty or nil one, to rows of the call's own -/
theorem wpList_append_rowsV {P : Program} {W : World} {ops : Array Oper} {rest : List Oper} {o : Oper} {a : Act} {Q : Exit → Act → World → Prop} (hgd : o.guard = none) (s x : Operand) (ty : TypeId)
    (ho : o.op = .call { callee := .builtin .append, args := #[s, x], argTypes := #[ty, ty] }) (base e : TypeId) (i : TypeInfo) (z : Value) (size bytes : Nat) (ht : P.underlying ty = some (.slice e)) (hi : P.info? e = some i) (hz : i.zero = some z)
    (hsize : i.size = size) (hby : i.bytes = bytes) (hzs : z.cells.size = size) (hsz : 0 < size) (v : Value) (l m : List (List Value)) (hs : a.eval s = v) (hown : OwnR W base e size v l)
    (ao : Option Addr) (n c : Nat) (hn : n = m.length) (hx : a.eval x = .slice ao n c) (hm : (m = [] ∧ (ao = none → c = 0)) ∨ ∃ b off, ao = some ⟨b, off, none⟩ ∧ RowsAt W b off size m) (hw : Wide size m)
    (h63 : l.length + m.length ≤ maxLen) (hbytes : (l.length + m.length) * bytes ≤ 140737488355328) (hbase : base ≤ W.heap.size)
    (h : ∀ v' w', OwnR w' base e size v' (l ++ m) → W.grownBy w' v.ownBlock → (v'.ownBlock = v.ownBlock ∨ v'.ownBlock = some W.heap.size) → wpList P ops Q rest (a.put o.dst v') w') : wpList P ops Q (o :: rest) a W := by
  rcases hm with ⟨rfl, hc⟩ | ⟨b, off, rfl, hr⟩
  · obtain rfl : n = 0 := hn
    cases ao with
    | none =>
      obtain rfl := hc rfl
      refine wpList_plain hgd fun K hK' => ?_
      have hrun := run_append_owned_none (P := P) W base ty o.type e i size ht hi _ l.length l.flatten hown.2
      unfold Oper.wp
      simp [execOp, ho, resolve, invoke, builtin, hs, hx, hrun, Result.andThen]
      exact hK' _ _ (h v W (by simpa using hown) (World.grownBy.refl _ _) (Or.inl rfl))
    | some ad =>
      refine wpList_append_own_at W hgd s x ty ho base e i z size bytes ht hi hz hsize hby hzs hsz v l.length l.flatten hs hown.2 ad 0 c [] hx (by simp) (fun j u h => by simp at h) (fun u h => by simp at h) (by simpa using h63) (by simpa using hbytes) hbase ?_
      intro v' w' h1 h2 _ h4
      exact h v' w' ⟨by simpa using hown.1, by simpa using h1⟩ h2 h4
  · exact wpList_append_rows hgd s x ty ho base e i z size bytes ht hi hz hsize hby hzs hsz v l m hs hown b off n c hn hx hr hw h63 hbytes hbase h
end Go.Proofs.Yteanlcefdoigcaa
