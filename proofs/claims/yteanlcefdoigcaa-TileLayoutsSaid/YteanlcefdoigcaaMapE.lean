/- An entry of a map taken and stored through its stamp ('m[k] = append(m[k], x)'): what the two operations do. For whatever program. -/
import Derived.Test.YteanlcefdoigcaaMapV
namespace Go.Proofs.Yteanlcefdoigcaa
open Go.RowKit Go.Maps
open Go.ChangeMaps (heap_setBlock_same)
open Go.WideElems (other_key)

/-- the map in block b holds an entry for this key with this stamp -/
def Pend (W : World) (b : Nat) (key : Value) (s : Nat) : Prop := ∃ (es : Array MapEntry) (clock j : Nat) (e0 : MapEntry), W.heap[b]? = some (.map es clock) ∧ es[j]? = some e0 ∧ e0.key = key ∧ e0.born = s
theorem Pend.kept {W W' : World} {b s : Nat} {key : Value} {row : Option Nat} (h : Pend W b key s) (hg : W.grownBy W' row) (hne : some b ≠ row) : Pend W' b key s := by
  obtain ⟨es, clock, j, e0, hb, h2⟩ := h
  exact ⟨es, clock, j, e0, (hg.block b (Array.getElem?_eq_some_iff.1 hb).1 hne).trans hb, h2⟩
theorem modify_at {α : Type} (a : Array α) (j : Nat) (f : α → α) (x : α) (h : a[j]? = some x) : a.modify j f = a.setIfInBounds j (f x) := by
  apply Array.toList_inj.1
  rw [Array.toList_modify, Array.toList_setIfInBounds]
  exact Go.ChangeMaps.modify_eq_set f _ _ _ (by simpa using h)
section
variable {P : Program} {W W' : World} {k t e : TypeId} {b n : Nat} {get : Lit → Option Value}
theorem MapAt.entry (h : MapAt P W k b n get) (K : Keyed P k) (ht : P.underlying t = some (.map k e)) (hn : n < maxLen) {z : Value} (hz : (zeroValue e).run P W = .ok z W) {key : Value} {kl : Lit} (hkey : keyOf P k key = some kl) :
    ∃ w' s, (Instr.mapEntry t (.map (some b)) key).run P W = .ok (.tuple #[(get kl).getD z, .int .i64 (s : Nat)]) w' ∧ MapAt P w' k b (n + 1) (putG get kl ((get kl).getD z)) ∧ W.grownBy w' (some b) ∧ Pend w' b key s := by
  have hl := h.look K ht hz hkey
  obtain ⟨w', hrun, hm, hg⟩ := h.put K ht hn (val := (get kl).getD z) hkey
  obtain ⟨D, ⟨es, clock, hb, F, hs, rfl⟩, h2, h3⟩ := h
  generalize (get kl).getD z = v at *
  rcases K.find W hkey es.toList F.keys with ⟨h1, h2⟩ | ⟨j, e0, h1, h2, h3⟩
  · simp [Instr.lookup, run_underlying ht, MapKept.run_getObj_map hb, K.check W _ hkey, h1, hz, Result.andThen] at hl
    subst hl
    simp [Instr.mapUpdate, run_underlying ht, MapKept.run_getObj_map hb, K.check W false hkey, h1, MapKept.run_setObj_map _ hb, Result.andThen] at hrun
    refine ⟨w', clock, ?_, hm, hg, es.push ⟨key, z, clock⟩, clock + 1, es.size, ⟨key, z, clock⟩, ?_, by simp, rfl, rfl⟩
    · simp [Instr.mapEntry, run_underlying ht, MapKept.run_getObj_map hb, K.check W false hkey, h1, hz, MapKept.run_setObj_map _ hb, Result.andThen, goInt, hrun]
    · rw [← hrun]
      exact heap_setBlock_same hb _
  · have hj : es[j]? = some e0 := by simpa using h2
    simp [Instr.lookup, run_underlying ht, MapKept.run_getObj_map hb, K.check W _ hkey, h1, Result.andThen] at hl
    subst hl
    simp [Instr.mapUpdate, run_underlying ht, MapKept.run_getObj_map hb, K.check W false hkey, h1, hj, h3, K.stays W hkey, MapKept.run_setObj_map _ hb, Result.andThen] at hrun
    have e1 : (es.modify j fun e => { e with key := key, val := e0.val }) = es.modify j fun e => { e with key := key } := by
      rw [modify_at _ _ _ _ hj, modify_at _ _ _ _ hj]
    rw [e1] at hrun
    refine ⟨w', e0.born, ?_, hm, hg, es.modify j fun e => { e with key := key }, clock, j, { e0 with key := key }, ?_, ?_, rfl, rfl⟩
    · simp [Instr.mapEntry, run_underlying ht, MapKept.run_getObj_map hb, K.check W false hkey, h1, hj, h3, K.stays W hkey, MapKept.run_setObj_map _ hb, Result.andThen, goInt, hrun]
    · rw [← hrun]
      exact heap_setBlock_same hb _
    · have hjl : j < es.size := (Array.getElem?_eq_some_iff.1 hj).1
      rw [modify_at _ _ _ _ hj]
      simp [hjl]
theorem MapAt.entryStore (h : MapAt P W k b n get) (K : Keyed P k) (ht : P.underlying t = some (.map k e)) (hn : n < maxLen) {key val : Value} {kl : Lit} {s : Nat} (hkey : keyOf P k key = some kl) (hp : Pend W b key s) :
    ∃ w', (Instr.entryStore t (.map (some b)) (.int .i64 (s : Nat)) val).run P W = .ok () w' ∧ MapAt P w' k b (n + 1) (putG get kl val) ∧ W.grownBy w' (some b) := by
  obtain ⟨w', hrun, hm, hg⟩ := h.put K ht hn (val := val) hkey
  refine ⟨w', ?_, hm, hg⟩
  obtain ⟨D, ⟨es, clock, hb, F, hs, rfl⟩, h2, h3⟩ := h
  obtain ⟨es', clock', j', e', hb', hj', hk', hs'⟩ := hp
  rw [hb] at hb'
  injection hb' with hb'
  injection hb' with a1 a2
  subst a1 a2
  rcases K.find W hkey es.toList F.keys with ⟨h1, h2⟩ | ⟨j, e0, h1, h2, h3⟩
  · exact absurd hk' (h2 e' (List.mem_of_getElem? (by simpa using hj')))
  · have hj : es[j]? = some e0 := by simpa using h2
    have hjl : j < es.toList.length := (List.getElem?_eq_some_iff.1 h2).1
    have hjj : j' = j := by
      by_cases hne : j' = j
      · exact hne
      · exact absurd (hk'.trans h3.symm) (other_key F h2 (by simpa using hj') hne)
    subst hjj
    rw [hj] at hj'
    injection hj' with hj'
    subst hj'
    have hfi : es.findIdx? (fun e => (e.born : Int) == (s : Int)) = some j' := by
      have hjs : j' < es.size := (Array.getElem?_eq_some_iff.1 hj).1
      have q0 : es[j'] = e0 := (Array.getElem?_eq_some_iff.1 hj).2
      rw [Array.findIdx?_eq_some_iff_getElem]
      refine ⟨hjs, by rw [q0, hs']; simp, fun i hi => ?_⟩
      have hnd := List.pairwise_iff_getElem.1 F.stamped.2.1 i j' (by simp; omega) (by simpa using hjs) hi
      simp only [List.getElem_map, Array.getElem_toList] at hnd
      rw [q0, hs'] at hnd
      simp
      omega
    simp [Instr.mapUpdate, run_underlying ht, MapKept.run_getObj_map hb, K.check W false hkey, h1, hj, h3, K.stays W hkey, MapKept.run_setObj_map _ hb, Result.andThen] at hrun
    have e1 : (es.modify j' fun e => { e with key := key, val := val }) = es.modify j' fun e => { e with val := val } := by
      rw [modify_at _ _ _ _ hj, modify_at _ _ _ _ hj, ← h3]
    rw [e1] at hrun
    simp [Instr.entryStore, MapKept.run_getObj_map hb, asInt, asIntOf, hfi, MapKept.run_setObj_map _ hb, Result.andThen]
    exact hrun
/-- the entry taken, at the operation -/
theorem wpList_entry {ops : Array Oper} {rest : List Oper} {o : Oper} {a : Act} {Q : Exit → Act → World → Prop} (hg : o.guard = none) (m x : Operand) (t : TypeId) (hop : o.op = Op.mapEntry t m x)
    (K : Keyed P k) (ht : P.underlying t = some (.map k e)) (hm : a.eval m = .map (some b)) (h : MapAt P W k b n get) (hn : n < maxLen) {z : Value} (hz : (zeroValue e).run P W = .ok z W) (key : Value) (kl : Lit) (hx : a.eval x = key) (hkey : keyOf P k key = some kl)
    (hK : ∀ w' (s : Nat), MapAt P w' k b (n + 1) (putG get kl ((get kl).getD z)) → W.grownBy w' (some b) → Pend w' b key s → wpList P ops Q rest (a.put o.dst (.tuple #[(get kl).getD z, .int .i64 s])) w') : wpList P ops Q (o :: rest) a W := by
  refine wpList_plain hg fun K' hK' => ?_
  obtain ⟨w', s, hrun, r1, r2, r3⟩ := h.entry K ht hn hz hkey
  unfold Oper.wp
  simp [execOp, hop, hm, hx, hrun, Result.andThen]
  exact hK' _ _ (hK w' s r1 r2 r3)
/-- the entry stored, at the operation -/
theorem wpList_entryStore {ops : Array Oper} {rest : List Oper} {o : Oper} {a : Act} {Q : Exit → Act → World → Prop} (hg : o.guard = none) (m x v : Operand) (t : TypeId) (hop : o.op = Op.entryStore t m x v)
    (K : Keyed P k) (ht : P.underlying t = some (.map k e)) (hm : a.eval m = .map (some b)) (h : MapAt P W k b n get) (hn : n < maxLen) (s : Nat) (hx : a.eval x = .int .i64 s) (val : Value) (hv : a.eval v = val) (key : Value) (kl : Lit) (hkey : keyOf P k key = some kl) (hp : Pend W b key s)
    (hK : ∀ w', MapAt P w' k b (n + 1) (putG get kl val) → W.grownBy w' (some b) → wpList P ops Q rest (a.put o.dst undef) w') : wpList P ops Q (o :: rest) a W := by
  refine wpList_plain hg fun K' hK' => ?_
  obtain ⟨w', hrun, r1, r2⟩ := h.entryStore K ht hn (val := val) hkey hp
  unfold Oper.wp
  simp [execOp, hop, hm, hx, hv, hrun, Result.andThen]
  exact hK' _ _ (hK w' r1 r2)
end
end Go.Proofs.Yteanlcefdoigcaa
