/- The reference's disk: ready 107, Arm 75; regions with stages. (Printed by wip/gen_diskr.py.) -/
import Derived.Test.YteanlcefdoigcaaDiskK
namespace Go.Proofs.Yteanlcefdoigcaa
open Go.RowKit

/-- the values of the staged operations -/
def selV (ps : List Nat) (us : Nat → Value) (i : Nat) : Value := if h : i < ps.length then us ps[i] else undef
/-- a drawn region whose operations are plain values but for some, which go on from stage to stage -/
structure StR (V : Nat → Value) (ps : List Nat) (S : Nat → (Nat → Value) → World → Prop) (L : Nat → Bool) (us : Nat → Value) (W : World) : Prop where
  vals : ∀ j, j ∉ ps → L j = true → us j = V j
  st : ∃ k, k ≤ ps.length ∧ (∀ i (h : i < ps.length), (L ps[i] = true ↔ i < k)) ∧ S k (selV ps us) W
section
variable {V : Nat → Value} {ps : List Nat} {S : Nat → (Nat → Value) → World → Prop} {L : Nat → Bool} {us : Nat → Value} {W W' : World}
theorem StR.start (h : S 0 (selV ps us) W) (hL : ∀ j, L j = false) : StR V ps S L us W :=
  ⟨fun j _ h => by rw [hL j] at h; exact absurd h (by simp), 0, Nat.zero_le _, fun i h => by simp [hL], h⟩
theorem StR.pure {k : Nat} {v : Value} (h : StR V ps S L us W) (hk : k ∉ ps) (hv : v = V k) : StR V ps S (fun j => j == k || L j) (updF us k v) W := by
  refine ⟨fun j hj hl => ?_, ?_⟩
  · by_cases e : j = k
    · subst e; rw [updF, if_pos rfl]; exact hv
    · rw [(box_other (L := L) (us := us) (v := v) e).2]; exact h.vals j hj (by simpa [e] using hl)
  · obtain ⟨m, hm, hL, hS⟩ := h.st
    refine ⟨m, hm, fun i hi => ?_, ?_⟩
    · have e : ps[i] ≠ k := fun e => hk (by rw [← e]; exact List.getElem_mem hi)
      rw [(box_other (L := L) (us := us) (v := v) e).1]; exact hL i hi
    · have e : selV ps (updF us k v) = selV ps us := by
        funext i
        unfold selV
        split
        · rename_i hi
          exact (box_other (L := L) (us := us) (v := v) (fun e => hk (by rw [← e]; exact List.getElem_mem hi))).2
        · rfl
      rw [e]; exact hS
theorem StR.at (h : StR V ps S L us W) (i : Nat) (hi : i < ps.length) (h0 : i = 0 ∨ ∃ (h' : i - 1 < ps.length), L ps[i - 1] = true) (hL : L ps[i] = false) : S i (selV ps us) W := by
  obtain ⟨m, hm, hl, hS⟩ := h.st
  have h1 : ¬ i < m := fun hlt => by rw [(hl i hi).2 hlt] at hL; exact absurd hL (by simp)
  have h2 : i ≤ m := by
    rcases h0 with h0 | ⟨h', h0⟩
    · omega
    · have := (hl (i - 1) h').1 h0; omega
  obtain rfl : m = i := by omega
  exact hS
theorem StR.next {v : Value} (h : StR V ps S L us W) (hnd : ps.Nodup) (i : Nat) (hi : i < ps.length) (h0 : i = 0 ∨ ∃ (h' : i - 1 < ps.length), L ps[i - 1] = true) (hL : L ps[i] = false)
    (hS : S (i + 1) (fun j => if j = i then v else selV ps us j) W') : StR V ps S (fun j => j == ps[i] || L j) (updF us ps[i] v) W' := by
  obtain ⟨m, hm, hl, _⟩ := h.st
  have h1 : ¬ i < m := fun hlt => by rw [(hl i hi).2 hlt] at hL; exact absurd hL (by simp)
  have h2 : i ≤ m := by
    rcases h0 with h0 | ⟨h', h0⟩
    · omega
    · have := (hl (i - 1) h').1 h0; omega
  obtain rfl : m = i := by omega
  refine ⟨fun j hj hl' => ?_, m + 1, hi, fun i' hi' => ?_, ?_⟩
  · have e : j ≠ ps[m] := fun e => hj (by rw [e]; exact List.getElem_mem hi)
    rw [(box_other (L := L) (us := us) (v := v) e).2]; exact h.vals j hj (by simpa [e] using hl')
  · by_cases e : i' = m
    · subst e; simp
    · have e' : ps[i'] ≠ ps[m] := fun e' => e ((List.getElem_inj hnd).1 e')
      rw [(box_other (L := L) (us := us) (v := v) e').1, hl i' hi']
      omega
  · have e : selV ps (updF us ps[m] v) = fun j => if j = m then v else selV ps us j := by
      funext j
      by_cases e : j = m
      · subst e; simp [selV, hi, updF]
      · rw [if_neg e]
        unfold selV
        split
        · rename_i hj
          have e' : ps[j] ≠ ps[m] := fun e' => e ((List.getElem_inj hnd).1 e')
          exact (box_other (L := L) (us := us) (v := v) e').2
        · rfl
    rw [e]; exact hS
theorem StR.last (h : StR V ps S L us W) (hall : ∀ i (hi : i < ps.length), L ps[i] = true) : S ps.length (selV ps us) W := by
  obtain ⟨m, hm, hl, hS⟩ := h.st
  have : ps.length ≤ m := by
    rcases Nat.lt_or_ge m ps.length with h1 | h1
    · have := (hl m h1).1 (hall m h1); omega
    · exact h1
  obtain rfl : m = ps.length := by omega
  exact hS
end
section
variable {w : World} {B g : Nat} {dn : Bool} {lf : Int} {f0 f1 : Fl}
theorem DR.c0 (h : DR w B g dn lf f0 f1) : w.cell? ⟨g, 0, none⟩ = some f0.v := (cell_row (j := 0) h.hg).trans rfl
theorem DR.c1 (h : DR w B g dn lf f0 f1) : w.cell? ⟨g, 1, none⟩ = some f1.v := (cell_row (j := 1) h.hg).trans rfl
theorem DR.c2 (h : DR w B g dn lf f0 f1) : w.cell? ⟨g, 2, none⟩ = some (.int .i64 (f0.s : Int)) := (cell_row (j := 2) h.hg).trans rfl
theorem DR.c3 (h : DR w B g dn lf f0 f1) : w.cell? ⟨g, 3, none⟩ = some (.int .i64 (f1.s : Int)) := (cell_row (j := 3) h.hg).trans rfl
theorem DR.c4 (h : DR w B g dn lf f0 f1) : w.cell? ⟨g, 4, none⟩ = some (.bool dn) := (cell_row (j := 4) h.hg).trans rfl
theorem DR.c5 (h : DR w B g dn lf f0 f1) : w.cell? ⟨g, 5, none⟩ = some (.int .i64 lf) := (cell_row (j := 5) h.hg).trans rfl
end
theorem DR.still {w w' : World} {B g : Nat} {dn : Bool} {lf : Int} {f0 f1 : Fl} (h : DR w B g dn lf f0 f1) (hb : Below w.heap.size w w') : DR w' B g dn lf f0 f1 := Dsk.still h hb
set_option maxRecDepth 100000 in
theorem rready_ref (g B : Nat) (dn : Bool) (lf i : Int) (f0 f1 : Fl) (w : World) (ch : Bool) (h : DR w B g dn lf f0 f1) (hr : refV i dn ≠ 0) :
    Calls Try.prog 107 #[.pointer (some ⟨g, 0, none⟩), .int .i64 i, .bool ch] w fun r w' => r = .returned (.int .i64 (refV i dn)) ∧ Below w.heap.size w w' := by
  have c4 := h.c4
  clear h
  by_cases hi : i < 0 ∨ 2 ≤ i
  · rw [show refV i dn = 2 by unfold refV; rw [if_pos hi]]
    have n0 : (i != 0) = true := by simp; omega
    have n1 : (i != 1) = true := by simp; omega
    clear hr hi
    go_enter Try.func107, Try.ntmps107
    go_wp2_with fail
    go_ret
    exact ⟨rfl, Below.refl _ _⟩
  · have hv : refV i dn = if dn = true then 82 else 0 := by unfold refV; rw [if_neg hi]
    obtain rfl : dn = true := by
      cases dn
      · rw [hv] at hr; exact absurd rfl hr
      · rfl
    rw [hv, if_pos rfl]
    rcases (show i = 0 ∨ i = 1 by omega) with rfl | rfl
    all_goals
      clear hr hi hv
      go_enter Try.func107, Try.ntmps107
      go_wp2_with fail
      go_ret
      exact ⟨rfl, Below.refl _ _⟩
set_option maxRecDepth 100000 in
theorem rready_no (g B : Nat) (dn : Bool) (lf i : Int) (f0 f1 : Fl) (w : World) (h : DR w B g dn lf f0 f1) (hr : refV i dn = 0) :
    Calls Try.prog 107 #[.pointer (some ⟨g, 0, none⟩), .int .i64 i, .bool false] w fun r w' => r = .returned (.int .i64 0) ∧ Below w.heap.size w w' := by
  obtain ⟨rfl, hi⟩ := refV_range hr
  have c4 := h.c4
  clear h hr
  rcases hi with rfl | rfl
  all_goals
    go_enter Try.func107, Try.ntmps107
    go_wp2_with fail
    go_ret
    exact ⟨rfl, Below.refl _ _⟩
set_option maxRecDepth 100000 in
theorem rready_any (g B : Nat) (lf i : Int) (f0 f1 : Fl) (w : World) (h : DR w B g false lf f0 f1) (h0 : 0 ≤ lf) (hl : lf ≤ 9223372036854775807) (hi : i = 0 ∨ i = 1) :
    Calls Try.prog 107 #[.pointer (some ⟨g, 0, none⟩), .int .i64 i, .bool true] w fun r w' => r = .returned (.int .i64 (if lf = 1 then 82 else 0)) ∧ DR w' B g (decide (lf = 1)) (spL lf) f0 f1 ∧ Fr (fun k => k = g) w w' := by
  have H := hid h
  have c4 := h.c4
  have c5 := h.c5
  clear h
  by_cases hp : 0 < lf
  · have d0 : decide (0 < lf) = true := decide_eq_true hp
    rw [show spL lf = lf - 1 from if_pos hp]
    by_cases h1 : lf = 1
    · have e1 : (lf - 1 == 0) = true := by simp; omega
      rw [show decide (lf = 1) = true from decide_eq_true h1, if_pos h1]
      clear h1
      rcases hi with rfl | rfl
      all_goals
        have z5 : w.frozen? ⟨g, 5, none⟩ = false := by have hh := (H.out).hg; simp [World.frozen?, hh]
        go_enter Try.func107, Try.ntmps107
        go_upto_region 7 with fail
        clear c5 z5 c4
        refine gen_world (fun W1 hW1 => ?_)
        have D1 := hid (show DR W1 B g false (lf - 1) f0 f1 by rw [hW1]; exact H.out.set 5 (.int .i64 (lf - 1)))
        have F1 := hid (show Fr (fun k => k = g) w W1 by rw [hW1]; exact Fr.set rfl)
        clear hW1
        have q5 : W1.cell? ⟨g, 5, none⟩ = some (.int .i64 (lf - 1)) := D1.out.c5
        have q4 : W1.cell? ⟨g, 4, none⟩ = some (.bool false) := D1.out.c4
        have z4 : W1.frozen? ⟨g, 4, none⟩ = false := by have hh := (D1.out).hg; simp [World.frozen?, hh]
        go_wp2_with fail
        go_ret
        exact ⟨rfl, D1.out.set 4 (.bool true), F1.out.trans (G := fun k => k = g) (Fr.set rfl) (fun _ _ h => h)⟩
    · have e1 : (lf - 1 == 0) = false := by rw [beq_eq_false_iff_ne]; omega
      rw [show decide (lf = 1) = false from decide_eq_false h1, if_neg h1]
      clear h1
      rcases hi with rfl | rfl
      all_goals
        have z5 : w.frozen? ⟨g, 5, none⟩ = false := by have hh := (H.out).hg; simp [World.frozen?, hh]
        go_enter Try.func107, Try.ntmps107
        go_upto_region 7 with fail
        clear c5 z5 c4
        refine gen_world (fun W1 hW1 => ?_)
        have D1 := hid (show DR W1 B g false (lf - 1) f0 f1 by rw [hW1]; exact H.out.set 5 (.int .i64 (lf - 1)))
        have F1 := hid (show Fr (fun k => k = g) w W1 by rw [hW1]; exact Fr.set rfl)
        clear hW1
        have q5 : W1.cell? ⟨g, 5, none⟩ = some (.int .i64 (lf - 1)) := D1.out.c5
        have q4 : W1.cell? ⟨g, 4, none⟩ = some (.bool false) := D1.out.c4
        have z4 : W1.frozen? ⟨g, 4, none⟩ = false := by have hh := (D1.out).hg; simp [World.frozen?, hh]
        go_wp2_with fail
        go_ret
        exact ⟨rfl, D1.out, F1.out⟩
  · obtain rfl : lf = 0 := by omega
    rcases hi with rfl | rfl
    all_goals
      go_enter Try.func107, Try.ntmps107
      go_wp2_with fail
      go_ret
      exact ⟨rfl, H.out, Fr.refl _ _⟩
set_option maxRecDepth 100000 in
theorem rarm_any (g B : Nat) (dn : Bool) (lf n : Int) (f0 f1 : Fl) (w : World) (h : DR w B g dn lf f0 f1) :
    Calls Try.prog 75 #[.pointer (some ⟨g, 0, none⟩), .int .i64 n] w fun r w' => r = .returned (.tuple #[]) ∧ DR w' B g dn (if dn = true then lf else max n 0) f0 f1 ∧ Fr (fun k => k = g) w w' := by
  have H := hid h
  have c4 := h.c4
  have c5 := h.c5
  have z5 : w.frozen? ⟨g, 5, none⟩ = false := by have hh := (h).hg; simp [World.frozen?, hh]
  clear h
  cases dn
  case true =>
    rw [if_pos rfl]
    go_enter Try.func75, Try.ntmps75
    go_wp2_with fail
    go_end0
    exact ⟨rfl, H.out, Fr.refl _ _⟩
  rw [if_neg (by decide)]
  go_enter Try.func75, Try.ntmps75
  go_wp2_with fail
  all_goals
    go_end0
    refine ⟨rfl, ?_, Fr.set rfl⟩
    first
    | exact H.out.set 5 (.int .i64 (max n 0))
    | (rw [show max n 0 = n by omega]; exact H.out.set 5 (.int .i64 n))
    | (rw [show max n 0 = 0 by omega]; exact H.out.set 5 (.int .i64 0))
end Go.Proofs.Yteanlcefdoigcaa
