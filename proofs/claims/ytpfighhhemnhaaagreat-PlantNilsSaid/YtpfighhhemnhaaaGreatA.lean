/- Texts of the seat Ytpablkmdpoombaa, turned to this one by wip/port.py: Fund. -/
import Derived.Test.YtpfighhhemnhaaaGreatRows
import Derived.WalkKit
import Derived.ProofKit
import Derived.Handy
import Derived.WalkSpells
import Derived.Deep.QuietTactic
import Derived.BigQuiet
import Derived.BigRegion
import Derived.Laws.CopyOwn
import Derived.Lib.SmallJoins
import Derived.Orders
import Derived.Laws.Tables
import Derived.Deep.MidRow
import Derived.OpenShut
import Derived.Deep.Slices
import Derived.Maps.AppendAt
import Derived.Maps.Own
import Derived.Maps.OwnSet
import Derived.Maps.Views
import Derived.Maps.RangeWalk
import GoSem.Claim
import GoSem.ClaimJoined
import Derived.SizedLaws
import Derived.Carry
/- Fund -/
namespace Go.Proofs.YtpfighhhemnhaaaGreat
section
variable {α : Type} (key : α → Int)

/-- the elements of a key, in their order -/
def ofKey (k : Int) (l : List α) : List α := l.filter fun x => key x == k
/-- y has the elements of x, those of one key in the same order -/
def Same (x y : List α) : Prop := ∀ k, ofKey key k y = ofKey key k x
/-- sorted by the key -/
def Up (l : List α) : Prop := l.Pairwise fun a b => key a ≤ key b
/-- y is x, sorted and stable -/
def Stab (x y : List α) : Prop := Up key y ∧ Same key x y
variable {key}
theorem ofKey_append (k : Int) (x y : List α) : ofKey key k (x ++ y) = ofKey key k x ++ ofKey key k y := List.filter_append ..
theorem Same.refl (x : List α) : Same key x x := fun _ => rfl
theorem Same.trans {x y z : List α} (h : Same key x y) (g : Same key y z) : Same key x z := fun k => (g k).trans (h k)
theorem Same.symm {x y : List α} (h : Same key x y) : Same key y x := fun k => (h k).symm
theorem Same.append {x y u v : List α} (h : Same key x y) (g : Same key u v) : Same key (x ++ u) (y ++ v) := fun k => by rw [ofKey_append, ofKey_append, h k, g k]
theorem mem_ofKey {k : Int} {l : List α} {x : α} : x ∈ ofKey key k l ↔ x ∈ l ∧ key x = k := by simp [ofKey]
theorem Same.mem {x y : List α} (h : Same key x y) (a : α) : a ∈ y ↔ a ∈ x := by
  have := h (key a)
  constructor
  · intro ha
    have : a ∈ ofKey key (key a) y := mem_ofKey.2 ⟨ha, rfl⟩
    rw [h] at this
    exact (mem_ofKey.1 this).1
  · intro ha
    have : a ∈ ofKey key (key a) x := mem_ofKey.2 ⟨ha, rfl⟩
    rw [← h] at this
    exact (mem_ofKey.1 this).1
theorem Same.nil {y : List α} (h : Same key [] y) : y = [] := by
  match y with
  | [] => rfl
  | a :: _ => exact absurd ((h.mem a).1 (by simp)) (by simp)
/-- there is one list that is sorted and has the same elements of each key -/
theorem up_one : ∀ {x y : List α}, Up key x → Up key y → Same key x y → x = y
  | [], y, _, _, h => h.nil.symm
  | a :: x, [], _, _, h => absurd ((h.mem a).2 (by simp)) (by simp)
  | a :: x, b :: y, hx, hy, h => by
    have hx' := List.pairwise_cons.1 hx
    have hy' := List.pairwise_cons.1 hy
    have h1 : key a ≤ key b := by
      have := (h.mem b).1 (by simp)
      rcases List.mem_cons.1 this with rfl | g
      · exact Int.le_refl _
      · exact hx'.1 b g
    have h2 : key b ≤ key a := by
      have := (h.mem a).2 (by simp)
      rcases List.mem_cons.1 this with rfl | g
      · exact Int.le_refl _
      · exact hy'.1 a g
    have hk : key a = key b := by omega
    have h3 := h (key a)
    have e1 : ofKey key (key a) (a :: x) = a :: ofKey key (key a) x := by simp [ofKey]
    have e2 : ofKey key (key a) (b :: y) = b :: ofKey key (key a) y := by simp [ofKey, hk]
    rw [e1, e2] at h3
    injection h3 with h4 h5
    subst h4
    rw [up_one hx'.2 hy'.2 (fun k => by
      by_cases g : key b = k
      · subst g; exact h5
      · have := h k
        simpa [ofKey, g] using this)]
theorem Stab.one {x y z : List α} (h : Stab key x y) (g : Stab key x z) : y = z := up_one h.1 g.1 (h.2.symm.trans g.2)
end
end Go.Proofs.YtpfighhhemnhaaaGreat

namespace Go.Proofs.YtpfighhhemnhaaaGreat
section
variable {α : Type} {key : α → Int}
theorem Same.length {x y : List α} (h : Same key x y) : y.length = x.length := by
  induction x generalizing y with
  | nil => rw [h.nil]
  | cons a x ih =>
    have ha : a ∈ y := (h.mem a).2 (by simp)
    -- take out the first element of a's key
    obtain ⟨u, v, hy, hu⟩ : ∃ u v, y = u ++ a :: v ∧ ofKey key (key a) u = [] := by
      have h0 := h (key a)
      have e1 : ofKey key (key a) (a :: x) = a :: ofKey key (key a) x := by simp [ofKey]
      rw [e1] at h0
      clear e1 ih ha
      have : ∀ y : List α, ∀ t, ofKey key (key a) y = a :: t → ∃ u v, y = u ++ a :: v ∧ ofKey key (key a) u = [] := by
        intro y
        induction y with
        | nil => intro t ht; cases ht
        | cons b y ih =>
          intro t ht
          by_cases g : key b = key a
          · have : ofKey key (key a) (b :: y) = b :: ofKey key (key a) y := by simp [ofKey, g]
            rw [this] at ht
            injection ht with h1 h2
            subst h1
            exact ⟨[], y, rfl, rfl⟩
          · have e : ofKey key (key a) (b :: y) = ofKey key (key a) y := by simp [ofKey, g]
            rw [e] at ht
            obtain ⟨u, v, hy, hu⟩ := ih t ht
            exact ⟨b :: u, v, by rw [hy]; rfl, by simp [ofKey, g]; simpa [ofKey] using hu⟩
      exact this y _ h0
    have hs : Same key x (u ++ v) := by
      intro k
      have h0 := h k
      rw [hy] at h0
      rw [ofKey_append] at h0 ⊢
      by_cases g : key a = k
      · subst g
        rw [hu] at h0 ⊢
        have e1 : ofKey key (key a) (a :: x) = a :: ofKey key (key a) x := by simp [ofKey]
        have e2 : ofKey key (key a) (a :: v) = a :: ofKey key (key a) v := by simp [ofKey]
        rw [e1, e2] at h0
        simpa using h0
      · have e1 : ofKey key k (a :: x) = ofKey key k x := by simp [ofKey, g]
        have e2 : ofKey key k (a :: v) = ofKey key k v := by simp [ofKey, g]
        rw [e1, e2] at h0
        exact h0
    have := ih hs
    rw [hy]
    simp at this ⊢
    omega
end
end Go.Proofs.YtpfighhhemnhaaaGreat

namespace Go.Proofs.YtpfighhhemnhaaaGreat
section
variable {α : Type} {key : α → Int}
/-- part i of length c -/
def chunk (l : List α) (i c : Nat) : List α := (l.drop (i * c)).take c
/-- each part is sorted -/
def Chunks (key : α → Int) (l : List α) (c : Nat) : Prop := ∀ i, Up key (chunk l i c)
/-- the first k parts are sorted -/
def ChunksTo (key : α → Int) (l : List α) (c k : Nat) : Prop := ∀ i, i < k → Up key (chunk l i c)
theorem up_nil : Up key ([] : List α) := List.Pairwise.nil
theorem chunk_left {Z z : List α} {i c k : Nat} (hZ : Z.length = k * c) (hi : i < k) : chunk (Z ++ z) i c = chunk Z i c := by
  have h : (i + 1) * c ≤ k * c := Nat.mul_le_mul_right c hi
  rw [Nat.add_mul, Nat.one_mul] at h
  unfold chunk
  rw [List.drop_append_of_le_length (by omega), List.take_append_of_le_length (by rw [List.length_drop]; omega)]
theorem chunk_at {Z z s : List α} {k c : Nat} (hZ : Z.length = k * c) (hz : z.length = c) : chunk (Z ++ (z ++ s)) k c = z := by
  unfold chunk
  rw [← hZ, List.drop_left, ← hz, List.take_left]
theorem chunk_last {Z z : List α} {k c : Nat} (hZ : Z.length = k * c) (hz : z.length ≤ c) : chunk (Z ++ z) k c = z := by
  unfold chunk
  rw [← hZ, List.drop_left, List.take_of_length_le hz]
theorem chunk_past {Z z : List α} {i k c : Nat} (hZ : Z.length = k * c) (hz : z.length ≤ c) (hi : k < i) : chunk (Z ++ z) i c = [] := by
  have h : (k + 1) * c ≤ i * c := Nat.mul_le_mul_right c hi
  rw [Nat.add_mul, Nat.one_mul] at h
  unfold chunk
  rw [List.drop_of_length_le (by rw [List.length_append]; omega), List.take_nil]
theorem ChunksTo.more {Z z : List α} {c k : Nat} (h : ChunksTo key Z c k) (hZ : Z.length = k * c) (hz : z.length = c) (hu : Up key z) : ChunksTo key (Z ++ z) c (k + 1) := fun i hi => by
  rcases Nat.lt_or_ge i k with g | g
  · rw [chunk_left hZ g]; exact h i g
  · obtain rfl : i = k := by omega
    have := chunk_at (s := []) hZ hz
    rw [List.append_nil] at this
    rw [this]; exact hu
theorem ChunksTo.all {Z z : List α} {c k : Nat} (h : ChunksTo key Z c k) (hZ : Z.length = k * c) (hz : z.length ≤ c) (hu : Up key z) : Chunks key (Z ++ z) c := fun i => by
  rcases Nat.lt_trichotomy i k with g | rfl | g
  · rw [chunk_left hZ g]; exact h i g
  · rw [chunk_last hZ hz]; exact hu
  · rw [chunk_past hZ hz g]; exact up_nil
theorem Chunks.whole {l : List α} {c : Nat} (h : Chunks key l c) (hc : l.length ≤ c) : Up key l := by
  have := h 0
  unfold chunk at this
  rwa [Nat.zero_mul, List.drop_zero, List.take_of_length_le hc] at this
/-- the first two parts of a list, and the rest -/
theorem Chunks.two {R : List α} {c : Nat} (h : Chunks key R c) (hc : c + c ≤ R.length) : ∃ u v R', R = u ++ (v ++ R') ∧ u.length = c ∧ v.length = c ∧ Up key u ∧ Up key v ∧ Chunks key R' c := by
  refine ⟨R.take c, (R.drop c).take c, R.drop (c + c), ?_, by rw [List.length_take]; omega, by rw [List.length_take, List.length_drop]; omega, ?_, ?_, fun i => ?_⟩
  · rw [← List.drop_drop, List.take_append_drop, List.take_append_drop]
  · have := h 0
    unfold chunk at this
    rwa [Nat.zero_mul, List.drop_zero] at this
  · have := h 1
    unfold chunk at this
    rwa [Nat.one_mul] at this
  · have := h (i + 2)
    unfold chunk at this ⊢
    rw [List.drop_drop]
    rwa [show (i + 2) * c = c + c + i * c by rw [Nat.add_mul]; omega] at this
/-- the first part of a list, and the rest that is no longer than a part -/
theorem Chunks.rest {R : List α} {c : Nat} (h : Chunks key R c) (h1 : c < R.length) (h2 : R.length < c + c) : ∃ u v, R = u ++ v ∧ u.length = c ∧ 0 < v.length ∧ Up key u ∧ Up key v := by
  refine ⟨R.take c, R.drop c, (List.take_append_drop _ _).symm, by rw [List.length_take]; omega, by rw [List.length_drop]; omega, ?_, ?_⟩
  · have := h 0
    unfold chunk at this
    rwa [Nat.zero_mul, List.drop_zero] at this
  · have := h 1
    unfold chunk at this
    rwa [Nat.one_mul, List.take_of_length_le (by rw [List.length_drop]; omega)] at this
end
end Go.Proofs.YtpfighhhemnhaaaGreat

namespace Go.Proofs.YtpfighhhemnhaaaGreat
open Go.RowKit

theorem hid {p : Prop} (h : p) : RowKit.Hid p := h

theorem heap_alloc_at (w : World) (o : Obj) (n : Nat) (h : n = w.heap.size) : (w.alloc o).heap[n]? = some o := by
  subst h; show (w.heap.push o)[_]? = _; simp
theorem heap_alloc_past (w : World) (o : Obj) (n : Nat) (x : Obj) (h : w.heap[n]? = some x) : (w.alloc o).heap[n]? = some x := by
  show (w.heap.push o)[_]? = _
  rw [Array.getElem?_push]
  have : n < w.heap.size := (Array.getElem?_eq_some_iff.1 h).1
  rw [if_neg (by omega)]; exact h
theorem heap_below {B : Nat} {w w' : World} {n : Nat} {x : Obj} (hb : Below B w w') (hn : n < B) (h : w.heap[n]? = some x) : w'.heap[n]? = some x := by
  rw [hb.block n hn]; exact h

theorem below_drewN {B : Nat} {a w : World} (h : Below B a w) (n : Nat) : Below B a (w.drewN n) := ⟨h.os, h.tape, h.output, h.size, h.block⟩
theorem setRow_new (W : World) (n : Nat) (t : TypeId) (fr : Nat × Nat) (old cells : Array Value) (hn : n = W.heap.size) : (W.alloc (.cells old t fr)).setRow n cells = W.alloc (.cells cells t fr) := by
  subst hn
  cases W with
  | mk heap tape drawn os output =>
    show World.mk ((heap.push (.cells old t fr)).modify heap.size _) tape drawn os output = World.mk (heap.push (.cells cells t fr)) tape drawn os output
    congr 1
    apply Array.ext
    · simp
    · intro i h1 h2
      simp only [Array.getElem_modify, Array.getElem_push]
      by_cases h : i = heap.size
      · subst h; simp
      · have : i < heap.size := by simp at h2; omega
        simp [this]; intro h'; omega
/-- the world of a goal under a name of its own -/
theorem gen_world {P : Program} {c : Code} {Q : Exit → Act → World → Prop} {a : Act} {w : World} (h : ∀ W, W = w → c.wp P Q a W) : c.wp P Q a w := h w rfl

section
variable {P : Program} {fn : Func} {p u v : Tmp} {ty : TypeId} {tmps : Array Value} {w : World} {g : Nat} {t : TypeId} {cs : Array Value} {fr : Nat × Nat} {d : TypeDesc} {n : Nat}
theorem results_at1 (h : fn.results = #[.cell p ty]) (hp : tmps.getD p undef = .pointer (some ⟨g, 0, none⟩)) (hg : w.heap[g]? = some (.cells cs t fr))
    (hu : P.underlying ty = some d) (hd : (match d with | .struct _ | .array _ _ => true | _ => false) = true) (hi : (P.info? ty).map (·.size) = some n) (hs : cs.size = n) :
    (results fn tmps).run P w = .ok (.agg cs) w := results_cell_row h tmps w g t cs fr d hp hg hu hd (by rw [hs]; exact hi)
end
theorem heap_still {w w' : World} {n : Nat} {x : Obj} (hb : Below w.heap.size w w') (h : w.heap[n]? = some x) : w'.heap[n]? = some x :=
  heap_below hb (Array.getElem?_eq_some_iff.1 h).1 h
/-- the frame of a goal under a name of its own -/
theorem gen_act {P : Program} {c : Code} {Q : Exit → Act → World → Prop} {a : Act} {w : World} (h : ∀ A, A = a → c.wp P Q A w) : c.wp P Q a w := h a rfl
end Go.Proofs.YtpfighhhemnhaaaGreat
namespace Go.Proofs.YtpfighhhemnhaaaGreat
open Go.RowKit

/-- Each operation of the list, met when those that it waits for have been carried out, keeps J. -/
def RegSteps (P : Program) (ops : Array Oper) (Q : Exit → Act → World → Prop) (S J : (Nat → Bool) → Act → World → Prop) : Nat → List Oper → Prop
  | _, [] => True
  | k, o :: rest => (∀ L : Nat → Bool, L k = false → (o.after.all fun e => !Region.binds .any e || L e.on) = true → ∀ a w, S L a w →
      wpList P ops (Exit.then (J fun j => j == k || L j) Q) [o] a w) ∧ RegSteps P ops Q S J (k + 1) rest
/-- Every edge leads back. -/
def backB : Nat → List Oper → Bool
  | _, [] => true
  | k, o :: rest => (o.after.all fun e => !Region.binds .any e || decide (e.on < k)) && backB (k + 1) rest

section
variable {P : Program} {Q : Exit → Act → World → Prop} {J : (Nat → Bool) → Act → World → Prop}

theorem RegSteps.at {ops : Array Oper} : ∀ {l : List Oper} {k : Nat}, RegSteps P ops Q J J k l → ∀ {i : Nat} {o : Oper}, l[i]? = some o → ∀ L : Nat → Bool, L (k + i) = false →
    (o.after.all fun e => !Region.binds .any e || L e.on) = true → ∀ a w, J L a w → wpList P ops (Exit.then (J fun j => j == k + i || L j) Q) [o] a w
  | [], _, _, i, o, h => by simp at h
  | x :: l, k, hs, 0, o, h => by
    simp at h; subst h
    exact hs.1
  | x :: l, k, hs, i + 1, o, h => by
    have := RegSteps.at hs.2 (i := i) (o := o) (by simpa using h)
    rwa [show k + 1 + i = k + (i + 1) from by omega] at this
theorem backB.at : ∀ {l : List Oper} {k : Nat}, backB k l = true → ∀ {i : Nat} {o : Oper}, l[i]? = some o → (o.after.all fun e => !Region.binds .any e || decide (e.on < k + i)) = true
  | [], _, _, i, o, h => by simp at h
  | x :: l, k, hb, 0, o, h => by
    simp at h; subst h
    simp only [backB, Bool.and_eq_true] at hb
    exact hb.1
  | x :: l, k, hb, i + 1, o, h => by
    simp only [backB, Bool.and_eq_true] at hb
    have := backB.at hb.2 (i := i) (o := o) (by simpa using h)
    rwa [show k + 1 + i = k + (i + 1) from by omega] at this

theorem Oper.wp_then {o : Oper} {a : Act} {w : World} {N : Act → World → Prop} {K : Act → World → Prop} (h : o.wp P a w N (Exit.then K Q)) : o.wp P a w N Q := by
  unfold Oper.wp at *
  generalize (execOp a.eval o).run P w = r at *
  cases r with
  | ok n w' => cases n <;> exact h
  | halt x w' => cases x <;> exact h

theorem wpOp_of_list {l : List Oper} {i : Nat} {o : Oper} {K : Act → World → Prop} {a : Act} {w : World} (ho : l.toArray[i]? = some o)
    (h : wpList P l.toArray (Exit.then K Q) [o] a w) : wpOp P l.toArray Q i K a w := by
  unfold wpOp
  rw [ho]
  simp only [wpList] at h ⊢
  split
  · rename_i hw
    rw [if_pos hw] at h
    rcases h with h | ⟨h1, h2⟩
    · exact .inl (Oper.wp_then h)
    · obtain ⟨a', w', hq⟩ := h2
      exact .inr ⟨h1, a', w', hq⟩
  · rename_i hw
    rw [if_neg hw] at h
    exact h

/-- how many are not yet listed -/
def unlisted (listed : Array Bool) : Nat := listed.toList.countP (!·)

theorem wpAny_inv {l : List Oper} (hs : RegSteps P l.toArray Q J J 0 l) (hb : backB 0 l = true)
    (hJ : ∀ L L' : Nat → Bool, (∀ j, j < l.length → L j = L' j) → ∀ a w, J L a w → J L' a w)
    (hend : ∀ a w, J (fun _ => true) a w → Q .normal a w) : ∀ (fuel : Nat) (listed : Array Bool) (a : Act) (w : World), listed.size = l.length → unlisted listed ≤ fuel → J (fun j => listed.getD j false) a w →
    wpAny P .any l.toArray Q fuel listed a w := by
  have hready : ∀ (listed : Array Bool), listed.size = l.length → Region.ready .any l.toArray listed = [] → ∀ j, j < l.length → listed.getD j false = true := by
    intro listed hsz hr j
    induction j using Nat.strongRecOn with
    | _ j ih =>
      intro hj
      cases hc : listed.getD j false with
      | true => rfl
      | false =>
        exfalso
        have hmem : j ∈ Region.ready .any l.toArray listed := by
          unfold Region.ready
          rw [List.mem_filter]
          refine ⟨by simpa using hj, ?_⟩
          have hlj : l.toArray[j]? = some l[j] := by simp [hj]
          have hgt : listed.getD j true = false := by
            rw [Array.getD_eq_getD_getElem?] at hc ⊢
            rw [Array.getElem?_eq_getElem (by omega)] at hc ⊢
            exact hc
          rw [hgt, hlj]
          simp only [Bool.not_false, Bool.true_and, Option.map_some, Option.getD_some]
          have hbj := backB.at hb (i := j) (o := l[j]) (by simp [hj])
          rw [Array.all_eq_true'] at hbj ⊢
          intro e he
          have := hbj e he
          simp only [Bool.or_eq_true, Bool.not_eq_true', decide_eq_true_eq] at this ⊢
          rcases this with h1 | h1
          · exact .inl h1
          · exact .inr (ih e.on (by omega) (by omega))
        rw [hr] at hmem
        simp at hmem
  have hall : ∀ (listed : Array Bool) (a : Act) (w : World), listed.size = l.length → Region.ready .any l.toArray listed = [] → J (fun j => listed.getD j false) a w → Q .normal a w :=
    fun listed a w hsz hr hj => hend a w (hJ _ _ (fun j h => hready listed hsz hr j h) a w hj)
  intro fuel
  induction fuel with
  | zero =>
    intro listed a w hsz hu hj
    have hr : Region.ready .any l.toArray listed = [] := by
      unfold Region.ready
      rw [List.filter_eq_nil_iff]
      intro i hi
      have hil : i < l.length := by simpa using hi
      have hcount : listed.toList.countP (!·) = 0 := by unfold unlisted at hu; omega
      rw [List.countP_eq_zero] at hcount
      have := hcount listed[i] (by simp)
      rw [Array.getD_eq_getD_getElem?, Array.getElem?_eq_getElem (by omega)]
      simp at this
      simp [this]
    exact ⟨hr, hall listed a w hsz hr hj⟩
  | succ fuel ih =>
    intro listed a w hsz hu hj
    refine ⟨fun hr => hall listed a w hsz hr hj, ?_⟩
    intro i hi
    unfold Region.ready at hi
    rw [List.mem_filter] at hi
    obtain ⟨hi1, hi2⟩ := hi
    have hil : i < l.length := by simpa using hi1
    have hli : l.toArray[i]? = some l[i] := by simp [hil]
    rw [hli] at hi2
    simp only [Bool.and_eq_true, Option.map_some, Option.getD_some, Bool.not_eq_true'] at hi2
    obtain ⟨hn, hd⟩ := hi2
    have hget : listed[i]'(by omega) = false := by
      rw [Array.getD_eq_getD_getElem?, Array.getElem?_eq_getElem (by omega)] at hn
      exact hn
    have hLi : (fun j => listed.getD j false) (0 + i) = false := by
      simp only [Nat.zero_add]
      rw [Array.getD_eq_getD_getElem?, Array.getElem?_eq_getElem (by omega)]
      exact hget
    have hstep := RegSteps.at hs (i := i) (o := l[i]) (by simp [hil]) (fun j => listed.getD j false) hLi hd a w hj
    refine wpOp_mono ?_ (wpOp_of_list hli hstep)
    intro a' w' hJ'
    refine ih _ _ _ (by simpa using hsz) ?_ (hJ _ _ ?_ _ _ hJ')
    · unfold unlisted at hu ⊢
      rw [Array.toList_setIfInBounds]
      have hlen : i < listed.toList.length := by simpa using (by omega : i < listed.size)
      have := List.countP_set (p := (!·)) (l := listed.toList) (i := i) (a := true) hlen
      have hgi : listed.toList[i] = false := by simpa using hget
      have hpos : 0 < listed.toList.countP (!·) := by
        rw [List.countP_pos_iff]
        exact ⟨listed.toList[i], List.getElem_mem hlen, by rw [hgi]; rfl⟩
      have e1 : (if (!listed.toList[i]) = true then 1 else 0) = 1 := by rw [hgi]; rfl
      have e2 : (if (!true) = true then 1 else 0) = 0 := rfl
      rw [e1, e2] at this
      rw [this]
      omega
    · intro j hjl
      simp only [Nat.zero_add]
      have hlt : j < listed.size := by omega
      by_cases hji : j = i
      · subst hji
        simp [hlt]
      · simp [hlt, hji, Ne.symm hji]

/-- A REGION THAT DRAWS ITS ORDER, by what each operation that has been carried out leaves. -/
theorem wp_region_inv {id : Nat} {l : List Oper} {a : Act} {w : World} (hm : P.follows .mixedOrders = true) (hb : backB 0 l = true) (J : (Nat → Bool) → Act → World → Prop)
    (h0 : J (fun _ => false) a w.drew) (hJ : ∀ L L' : Nat → Bool, (∀ j, j < l.length → L j = L' j) → ∀ a w, J L a w → J L' a w)
    (hs : ∀ K : (Nat → Bool) → Act → World → Prop, (∀ L a w, J L a w → K L a w) → RegSteps P l.toArray Q J K 0 l) (hend : ∀ a w, J (fun _ => true) a w → Q .normal a w) : (Code.region id l.toArray true).wp P Q a w := by
  have hs := hs J (fun _ _ _ h => h)
  refine wp_region_any hm (wpAny_inv hs hb hJ hend _ _ _ _ (by simp) ?_ (hJ _ _ ?_ _ _ h0))
  · unfold unlisted
    simp only [Array.toList_replicate, List.size_toArray]
    exact Nat.le_trans (List.countP_le_length) (by simp)
  · intro j hj
    rw [Array.getD_eq_getD_getElem?, Array.getElem?_replicate]
    simp [hj]
end
end Go.Proofs.YtpfighhhemnhaaaGreat
namespace Go.Proofs.YtpfighhhemnhaaaGreat
open Go.RowKit

/-- a frame with these slots put -/
def putF (A : Act) : List (Option Nat) → (Nat → Value) → Act
  | [], _ => A
  | d :: ds, us => putF (A.put d (us 0)) ds (fun j => us (j + 1))
def updF (us : Nat → Value) (k : Nat) (v : Value) : Nat → Value := fun j => if j = k then v else us j
theorem put_comm (A : Act) {d e : Nat} (h : d ≠ e) (v u : Value) : (A.put (some d) v).put (some e) u = (A.put (some e) u).put (some d) v := by
  simp only [Act.put, Act.mk.injEq, and_true]
  exact Array.setIfInBounds_comm v u h
theorem put_twice (A : Act) (d : Nat) (v u : Value) : (A.put (some d) v).put (some d) u = A.put (some d) u := by
  simp [Act.put]
theorem putF_put : ∀ (ds : List (Option Nat)) (A : Act) (us : Nat → Value) (d : Nat) (v : Value), some d ∉ ds → (putF A ds us).put (some d) v = putF (A.put (some d) v) ds us
  | [], A, us, d, v, _ => rfl
  | none :: ds, A, us, d, v, h => by
    simp only [List.mem_cons, not_or] at h
    exact putF_put ds A _ d v h.2
  | some e :: ds, A, us, d, v, h => by
    simp only [List.mem_cons, not_or] at h
    show (putF (A.put (some e) (us 0)) ds _).put (some d) v = putF ((A.put (some d) v).put (some e) (us 0)) ds _
    rw [putF_put ds _ _ d v h.2, put_comm A (fun hh => h.1 (by rw [hh]))]
theorem putF_upd : ∀ (ds : List (Option Nat)) (A : Act) (us : Nat → Value) (k : Nat) (v : Value), (ds.filterMap id).Nodup → k < ds.length → (putF A ds us).put (ds.getD k none) v = putF A ds (updF us k v)
  | [], _, _, _, _, _, h => by simp at h
  | none :: ds, A, us, 0, v, hd, _ => by
    show putF A ds _ = putF A ds _
    congr 1
  | some e :: ds, A, us, 0, v, hd, _ => by
    simp only [List.filterMap_cons, id, List.nodup_cons, List.mem_filterMap] at hd
    show (putF (A.put (some e) (us 0)) ds _).put (some e) v = putF (A.put (some e) v) ds _
    rw [putF_put ds _ _ e v (fun h => hd.1 ⟨_, h, rfl⟩), put_twice]
    congr 1
  | d :: ds, A, us, k + 1, v, hd, hk => by
    have hd' : (ds.filterMap id).Nodup := by
      cases d with
      | none => simpa using hd
      | some e => simp only [List.filterMap_cons, id, List.nodup_cons] at hd; exact hd.2
    show (putF (A.put d (us 0)) ds _).put (ds.getD k none) v = putF (A.put d (us 0)) ds _
    rw [putF_upd ds _ _ k v hd' (by simpa using hk)]
    congr 1
    funext j
    simp [updF]

theorem put_self (A : Act) (d : Nat) : A.put (some d) (A.tmps.getD d undef) = A := by
  cases A with
  | mk tmps defers =>
    simp only [Act.put, Act.mk.injEq, and_true]
    apply Array.ext
    · simp
    · intro i h1 h2
      rw [Array.getElem_setIfInBounds]
      split
      · rename_i h
        subst h
        rw [Array.getD_eq_getD_getElem?, Array.getElem?_eq_getElem h2]
        rfl
      · rfl
/-- the values that the frame's slots hold -/
def selfF (A : Act) (ds : List (Option Nat)) : Nat → Value := fun j => match ds.getD j none with
  | some d => A.tmps.getD d undef
  | none => undef
theorem putF_self (A : Act) : ∀ (ds : List (Option Nat)), putF A ds (selfF A ds) = A
  | [] => rfl
  | none :: ds => putF_self A ds
  | some d :: ds => by
    show putF (A.put (some d) (A.tmps.getD d undef)) ds (selfF A ds) = A
    rw [put_self]
    exact putF_self A ds

section
variable {P : Program} {Q : Exit → Act → World → Prop}
/-- Each operation of the list, met when those that it waits for are done, keeps R. -/
def BySteps (P : Program) (ops : Array Oper) (Q : Exit → Act → World → Prop) (A0 : Act) (ds : List (Option Nat)) (R : (Nat → Bool) → (Nat → Value) → World → Prop) : Nat → List Oper → Prop
  | _, [] => True
  | k, o :: rest => (∀ (K : Act → World → Prop) (L : Nat → Bool) (us : Nat → Value) (W : World),
      (∀ v A' W', A' = (putF A0 ds us).put (ds.getD k none) v → R (fun j => j == k || L j) (updF us k v) W' → K A' W') → L k = false →
      (o.after.all fun e => !Region.binds .any e || L e.on) = true → R L us W → wpList P ops (Exit.then K Q) [o] (putF A0 ds us) W) ∧ BySteps P ops Q A0 ds R (k + 1) rest

theorem BySteps.reg {ops : Array Oper} {A0 : Act} {ds : List (Option Nat)} {R : (Nat → Bool) → (Nat → Value) → World → Prop} (hds : (ds.filterMap id).Nodup) : ∀ {l : List Oper} {k : Nat}, k + l.length = ds.length → backB k l = true →
    BySteps P ops Q A0 ds R k l → ∀ K : (Nat → Bool) → Act → World → Prop, (∀ L a w, (∃ us, a = putF A0 ds us ∧ R (fun j => L j && decide (j < ds.length)) us w) → K L a w) →
    RegSteps P ops Q (fun L a w => ∃ us, a = putF A0 ds us ∧ R (fun j => L j && decide (j < ds.length)) us w) K k l
  | [], _, _, _, _, _, _ => trivial
  | o :: rest, k, hl, hb, hs, K, hK => by
    simp only [List.length_cons] at hl
    simp only [backB, Bool.and_eq_true] at hb
    refine ⟨?_, BySteps.reg hds (by omega) hb.2 hs.2 K hK⟩
    rintro L hL hd a w ⟨us, rfl, hR⟩
    refine hs.1 (K fun j => j == k || L j) (fun j => L j && decide (j < ds.length)) us w ?_ (by simp [hL]) ?_ hR
    · intro v A' W' hA hR'
      refine hK _ _ _ ⟨updF us k v, hA.trans (putF_upd ds A0 us k v hds (by omega)), ?_⟩
      have : (fun j => (j == k || L j) && decide (j < ds.length)) = fun j => j == k || (L j && decide (j < ds.length)) := by
        funext j
        by_cases hj : j = k
        · subst hj; simp; omega
        · rw [show (j == k) = false from beq_false_of_ne hj, Bool.false_or, Bool.false_or]
      rw [this]
      exact hR'
    · have hb1 := hb.1
      rw [Array.all_eq_true'] at hd hb1 ⊢
      intro e he
      have h1 := hd e he
      have h2 := hb1 e he
      simp only [Bool.or_eq_true, Bool.not_eq_true', Bool.and_eq_true, decide_eq_true_eq] at h1 h2 ⊢
      rcases h1 with h1 | h1
      · exact .inl h1
      · rcases h2 with h2 | h2
        · exact .inl h2
        · exact .inr ⟨h1, by omega⟩

/-- A REGION THAT DRAWS ITS ORDER, by an invariant on the operations done, their values and the world. -/
theorem wp_region_by {id : Nat} {l : List Oper} {A0 : Act} {w : World} (hm : P.follows .mixedOrders = true) (hb : backB 0 l = true) (ds : List (Option Nat)) (hl : l.length = ds.length) (hds : (ds.filterMap _root_.id).Nodup)
    (R : (Nat → Bool) → (Nat → Value) → World → Prop) (us0 : Nat → Value) (hus : putF A0 ds us0 = A0) (h0 : R (fun _ => false) us0 w.drew)
    (hs : BySteps P l.toArray Q A0 ds R 0 l) (hend : ∀ (L : Nat → Bool) us W, (∀ j, j < ds.length → L j = true) → R L us W → Q .normal (putF A0 ds us) W) : (Code.region id l.toArray true).wp P Q A0 w := by
  refine wp_region_inv hm hb (fun L a w => ∃ us, a = putF A0 ds us ∧ R (fun j => L j && decide (j < ds.length)) us w) ⟨us0, hus.symm, ?_⟩ ?_ (fun K hK => BySteps.reg hds (by omega) hb hs K hK) ?_
  · simpa using h0
  · rintro L L' hL a w ⟨us, ha, hR⟩
    refine ⟨us, ha, ?_⟩
    have : (fun j => L j && decide (j < ds.length)) = fun j => L' j && decide (j < ds.length) := by
      funext j
      by_cases hj : j < ds.length
      · rw [hL j (by omega)]
      · simp [hj]
    rw [← this]
    exact hR
  · rintro a w ⟨us, rfl, hR⟩
    exact hend _ us w (by intro j hj; simp [hj]) hR

/-- each operation, from the values of those that it waits for, in any grown world: a value with its predicate, and a grown world -/
def PtSteps (P : Program) (ops : Array Oper) (Q : Exit → Act → World → Prop) (A0 : Act) (ds : List (Option Nat)) (B : World) (Pr : Nat → World → Value → Prop) : Nat → List Oper → Prop
  | _, [] => True
  | k, o :: rest => (∀ (K : Act → World → Prop) (us : Nat → Value) (W : World),
      (∀ v A' W', A' = (putF A0 ds us).put (ds.getD k none) v → Below W.heap.size W W' → Pr k W' v → K A' W') → Below B.heap.size B W →
      (∀ e ∈ o.after, Region.binds .any e = true → Pr e.on W (us e.on)) → wpList P ops (Exit.then K Q) [o] (putF A0 ds us) W) ∧ PtSteps P ops Q A0 ds B Pr (k + 1) rest

theorem PtSteps.by {ops : Array Oper} {A0 : Act} {ds : List (Option Nat)} {B : World} {Pr : Nat → World → Value → Prop} (hPr : ∀ j W W' v, Below W.heap.size W W' → Pr j W v → Pr j W' v) : ∀ {l : List Oper} {k : Nat},
    PtSteps P ops Q A0 ds B Pr k l → BySteps P ops Q A0 ds (fun L us W => Below B.heap.size B W ∧ ∀ j, L j = true → Pr j W (us j)) k l
  | [], _, _ => trivial
  | o :: rest, k, hs => by
    refine ⟨?_, PtSteps.by hPr hs.2⟩
    intro K L us W hK hL hd hR
    refine hs.1 K us W ?_ hR.1 ?_
    · intro v A' W' hA hB hv
      refine hK v A' W' hA ⟨hR.1.trans (hB.mono hR.1.size), ?_⟩
      intro j hj
      by_cases hjk : j = k
      · subst hjk; simpa [updF] using hv
      · simp only [updF, hjk, if_false]
        exact hPr j W W' _ hB (hR.2 j (by simpa [hjk] using hj))
    · intro e he hbi
      rw [Array.all_eq_true'] at hd
      have := hd e he
      rw [hbi] at this
      exact hR.2 e.on (by simpa using this)

/-- a predicate on a value that stays when the world grows -/
def Stb (p : World → Value → Prop) : Prop := ∀ W W' v, Below W.heap.size W W' → p W v → p W' v
def StbL : List (World → Value → Prop) → Prop
  | [] => True
  | p :: l => Stb p ∧ StbL l
theorem StbL.at : ∀ {l : List (World → Value → Prop)}, StbL l → ∀ j W W' v, Below W.heap.size W W' → l.getD j (fun _ _ => True) W v → l.getD j (fun _ _ => True) W' v
  | [], _, j, W, W', v, _, _ => by simp
  | p :: l, h, 0, W, W', v, hB, hp => h.1 W W' v hB hp
  | p :: l, h, j + 1, W, W', v, hB, hp => StbL.at h.2 j W W' v hB hp
end
end Go.Proofs.YtpfighhhemnhaaaGreat
namespace Go.Proofs.YtpfighhhemnhaaaGreat
open Go.RowKit

section
variable {P : Program} {Q : Exit → Act → World → Prop}
theorem BySteps.append {ops : Array Oper} {A0 : Act} {ds : List (Option Nat)} {R : (Nat → Bool) → (Nat → Value) → World → Prop} : ∀ {l1 l2 : List Oper} {k : Nat},
    BySteps P ops Q A0 ds R k l1 → BySteps P ops Q A0 ds R (k + l1.length) l2 → BySteps P ops Q A0 ds R k (l1 ++ l2)
  | [], l2, k, _, h2 => h2
  | o :: l1, l2, k, h1, h2 => ⟨h1.1, BySteps.append h1.2 (by rw [show k + 1 + l1.length = k + (o :: l1).length by simp; omega]; exact h2)⟩

end
end Go.Proofs.YtpfighhhemnhaaaGreat
namespace Go.Proofs.YtpfighhhemnhaaaGreat
open Go.RowKit

section
variable {P : Program} {Q : Exit → Act → World → Prop}
end
end Go.Proofs.YtpfighhhemnhaaaGreat
namespace Go.Proofs.YtpfighhhemnhaaaGreat
open Go.RowKit
section
variable {P : Program} {Q : Exit → Act → World → Prop}
end
end Go.Proofs.YtpfighhhemnhaaaGreat
namespace Go.Proofs.YtpfighhhemnhaaaGreat
open Go.RowKit

/-- what an operation waits for -/
def depsOf (o : Oper) : List Nat := (o.after.toList.filter fun e => Region.binds .any e).map (·.on)
/-- a set that holds with each operation what that waits for -/
def Closed (l : List Oper) (L : Nat → Bool) : Prop := ∀ (i : Nat) (o : Oper), l[i]? = some o → L i = true → ∀ j ∈ depsOf o, L j = true
section
variable {P : Program} {Q : Exit → Act → World → Prop}
theorem Closed.add {l : List Oper} {L : Nat → Bool} {k : Nat} {o : Oper} (h : Closed l L) (ho : l[k]? = some o) (hd : ∀ j ∈ depsOf o, L j = true) : Closed l (fun j => j == k || L j) := by
  intro i o' ho' hi j hj
  by_cases hik : i = k
  · subst hik
    rw [ho] at ho'
    cases ho'
    simp [hd j hj]
  · have hi' : L i = true := by simpa [hik] using hi
    simp [h i o' ho' hi' j hj]
end
end Go.Proofs.YtpfighhhemnhaaaGreat
namespace Go.Proofs.YtpfighhhemnhaaaGreat
open Go.RowKit

section
variable {P : Program} {Q : Exit → Act → World → Prop}
end
end Go.Proofs.YtpfighhhemnhaaaGreat
namespace Go.Proofs.YtpfighhhemnhaaaGreat
open Go.RowKit

/-- what holds while m blocks are laid and filled behind c plain values -/
structure BoxR (W0 : World) (c m : Nat) (V : Nat → Value) (Z C : Nat → Array Value) (T : Nat → TypeId) (L : Nat → Bool) (us : Nat → Value) (W : World) : Prop where
  grow : Below W0.heap.size W0 W
  vals : ∀ j, j < c → L j = true → us j = V j
  box : ∀ i, i < m → L (c + i) = true → ∃ g, us (c + i) = .pointer (some ⟨g, 0, none⟩) ∧ W0.heap.size ≤ g ∧ W.heap[g]? = some (.cells (if L (c + m + i) = true then C i else Z i) (T i))
  ne : ∀ i j, i < m → j < m → i ≠ j → L (c + i) = true → L (c + j) = true → us (c + i) ≠ us (c + j)
  dep : ∀ i, i < m → L (c + m + i) = true → L (c + i) = true
section
variable {W0 W W' : World} {c m : Nat} {V : Nat → Value} {Z C : Nat → Array Value} {T : Nat → TypeId} {L : Nat → Bool} {us : Nat → Value}
theorem box_other {k j : Nat} {v : Value} (h : j ≠ k) : ((j == k || L j) = L j) ∧ updF us k v j = us j :=
  ⟨by rw [show (j == k) = false from beq_false_of_ne h, Bool.false_or], by simp [updF, h]⟩
theorem BoxR.pure {k : Nat} {v : Value} (h : BoxR W0 c m V Z C T L us W) (hk : k < c) (hB : Below W.heap.size W W') (hv : v = V k) : BoxR W0 c m V Z C T (fun j => j == k || L j) (updF us k v) W' := by
  have o : ∀ j, c ≤ j → ((j == k || L j) = L j) ∧ updF us k v j = us j := fun j hj => box_other (by omega)
  refine ⟨h.grow.trans (hB.mono h.grow.size), ?_, ?_, ?_, ?_⟩
  · intro j hj hLj
    by_cases hjk : j = k
    · subst hjk; simp [updF, hv]
    · rw [(box_other (L := L) (us := us) (v := v) hjk).2]
      exact h.vals j hj (by simpa [hjk] using hLj)
  · intro i hi hLi
    simp only [(o (c + i) (by omega)).1, (o (c + i) (by omega)).2, (o (c + m + i) (by omega)).1] at hLi ⊢
    obtain ⟨g, e, hg, hh⟩ := h.box i hi hLi
    exact ⟨g, e, hg, heap_still hB hh⟩
  · intro i j hi hj hij h1 h2
    simp only [(o (c + i) (by omega)).1, (o (c + i) (by omega)).2, (o (c + j) (by omega)).1, (o (c + j) (by omega)).2] at h1 h2 ⊢
    exact h.ne i j hi hj hij h1 h2
  · intro i hi h1
    simp only [(o (c + i) (by omega)).1, (o (c + m + i) (by omega)).1] at h1 ⊢
    exact h.dep i hi h1
theorem BoxR.alloc {i : Nat} (h : BoxR W0 c m V Z C T L us W) (hi : i < m) (hL : L (c + i) = false) :
    BoxR W0 c m V Z C T (fun j => j == c + i || L j) (updF us (c + i) (.pointer (some ⟨W.heap.size, 0, none⟩))) (W.alloc (.cells (Z i) (T i))) := by
  have hB := (Below.refl W.heap.size W).alloc (Nat.le_refl _) (.cells (Z i) (T i))
  have hnd : L (c + m + i) = false := by
    cases hd : L (c + m + i)
    · rfl
    · rw [h.dep i hi hd] at hL; cases hL
  refine ⟨h.grow.trans (hB.mono h.grow.size), ?_, ?_, ?_, ?_⟩
  · intro j hj hLj
    have o := box_other (L := L) (us := us) (v := .pointer (some ⟨W.heap.size, 0, none⟩)) (show j ≠ c + i by omega)
    rw [o.1] at hLj
    rw [o.2]
    exact h.vals j hj hLj
  · intro j hj hLj
    have o2 := box_other (L := L) (us := us) (v := .pointer (some ⟨W.heap.size, 0, none⟩)) (show c + m + j ≠ c + i by omega)
    simp only [o2.1]
    by_cases hji : j = i
    · subst hji
      refine ⟨W.heap.size, by simp [updF], h.grow.size, ?_⟩
      rw [hnd, if_neg (by decide)]
      exact heap_alloc_at _ _ _ rfl
    · have o := box_other (L := L) (us := us) (v := .pointer (some ⟨W.heap.size, 0, none⟩)) (show c + j ≠ c + i by omega)
      rw [o.1] at hLj
      obtain ⟨g, e, hg, hh⟩ := h.box j hj hLj
      exact ⟨g, by rw [o.2]; exact e, hg, heap_alloc_past _ _ _ _ hh⟩
  · intro a b ha hb hab h1 h2
    have key : ∀ x, x < m → x ≠ i → (x + c == c + i || L (c + x)) = true → L (c + x) = true → us (c + x) ≠ .pointer (some ⟨W.heap.size, 0, none⟩) := by
      intro x hx hxi _ hLx he
      obtain ⟨g, e, _, hh⟩ := h.box x hx hLx
      rw [e] at he
      injection he with he
      injection he with he
      injection he with he
      have := (Array.getElem?_eq_some_iff.1 hh).1
      omega
    by_cases hai : a = i
    · subst hai
      have o := box_other (L := L) (us := us) (v := .pointer (some ⟨W.heap.size, 0, none⟩)) (show c + b ≠ c + a by omega)
      rw [o.1] at h2
      rw [o.2]
      simp only [updF, if_true]
      exact fun he => key b hb (by omega) (by rw [h2]; simp) h2 he.symm
    · have o := box_other (L := L) (us := us) (v := .pointer (some ⟨W.heap.size, 0, none⟩)) (show c + a ≠ c + i by omega)
      rw [o.1] at h1
      rw [o.2]
      by_cases hbi : b = i
      · subst hbi
        simp only [updF, if_true]
        exact key a ha hai (by rw [h1]; simp) h1
      · have o' := box_other (L := L) (us := us) (v := .pointer (some ⟨W.heap.size, 0, none⟩)) (show c + b ≠ c + i by omega)
        rw [o'.1] at h2
        rw [o'.2]
        exact h.ne a b ha hb hab h1 h2
  · intro j hj h1
    have o2 := box_other (L := L) (us := us) (v := .pointer (some ⟨W.heap.size, 0, none⟩)) (show c + m + j ≠ c + i by omega)
    rw [o2.1] at h1
    rw [h.dep j hj h1]
    simp
theorem BoxR.store {i g : Nat} {v : Value} (h : BoxR W0 c m V Z C T L us W) (hi : i < m) (hL : L (c + i) = true) (e : us (c + i) = .pointer (some ⟨g, 0, none⟩)) (hg : W0.heap.size ≤ g) (hh : W.heap[g]? = some (.cells (Z i) (T i))) :
    BoxR W0 c m V Z C T (fun j => j == c + m + i || L j) (updF us (c + m + i) v) (W.setRow g (C i)) := by
  have o : ∀ j, j < c + m → ((j == c + m + i || L j) = L j) ∧ updF us (c + m + i) v j = us j := fun j hj => box_other (by omega)
  refine ⟨below_setRow h.grow hg _, ?_, ?_, ?_, ?_⟩
  · intro j hj hLj
    rw [(o j (by omega)).1] at hLj
    rw [(o j (by omega)).2]
    exact h.vals j hj hLj
  · intro j hj hLj
    simp only [(o (c + j) (by omega)).1, (o (c + j) (by omega)).2] at hLj ⊢
    by_cases hji : j = i
    · subst hji
      refine ⟨g, e, hg, ?_⟩
      rw [show (c + m + j == c + m + j || L (c + m + j)) = true by simp, if_pos rfl]
      exact setRow_heap _ _ _ _ _ _ hh
    · obtain ⟨g', e', hg', hh'⟩ := h.box j hj hLj
      refine ⟨g', e', hg', ?_⟩
      rw [show (c + m + j == c + m + i || L (c + m + j)) = L (c + m + j) by rw [show (c + m + j == c + m + i) = false from beq_false_of_ne (by omega), Bool.false_or]]
      have hne : g' ≠ g := by
        rintro rfl
        exact h.ne j i hj hi hji hLj hL (by rw [e, e'])
      show (W.heap.modify g _)[g']? = _
      rw [Array.getElem?_modify, if_neg (by omega)]
      exact hh'
  · intro a b ha hb hab h1 h2
    simp only [(o (c + a) (by omega)).1, (o (c + a) (by omega)).2, (o (c + b) (by omega)).1, (o (c + b) (by omega)).2] at h1 h2 ⊢
    exact h.ne a b ha hb hab h1 h2
  · intro j hj h1
    rw [(o (c + j) (by omega)).1]
    by_cases hji : j = i
    · subst hji; exact hL
    · rw [show (c + m + j == c + m + i || L (c + m + j)) = L (c + m + j) by rw [show (c + m + j == c + m + i) = false from beq_false_of_ne (by omega), Bool.false_or]] at h1
      exact h.dep j hj h1
end
end Go.Proofs.YtpfighhhemnhaaaGreat
namespace Go.Proofs.YtpfighhhemnhaaaGreat
open Go.RowKit Go.Deep

theorem cell_row {W : World} {b j : Nat} {C : Array Value} {t : TypeId} {fr : Nat × Nat} (h : W.heap[b]? = some (.cells C t fr)) : W.cell? ⟨b, j, none⟩ = C[j]? := by
  simp [World.cell?, h]
/-- values put into a row, one behind the other -/
def ptL (C : Array Value) : Nat → List Value → Array Value
  | _, [] => C
  | o, v :: vs => ptL (C.setIfInBounds o v) (o + 1) vs
theorem ptL_size : ∀ (vs : List Value) (C : Array Value) (o : Nat), (ptL C o vs).size = C.size
  | [], _, _ => rfl
  | v :: vs, C, o => (ptL_size vs _ _).trans (by simp)
theorem ptL_out : ∀ (vs : List Value) (C : Array Value) (o j : Nat), (j < o ∨ o + vs.length ≤ j) → (ptL C o vs)[j]? = C[j]?
  | [], _, _, _, _ => rfl
  | v :: vs, C, o, j, h => by
    rw [ptL, ptL_out vs _ (o + 1) j (by simp at h; omega), Array.getElem?_setIfInBounds_ne (by simp at h; omega)]
theorem ptL_in : ∀ (vs : List Value) (C : Array Value) (o j : Nat), o + vs.length ≤ C.size → j < vs.length → (ptL C o vs)[o + j]? = vs[j]?
  | [], _, _, _, _, h => by simp at h
  | v :: vs, C, o, 0, h, _ => by
    simp at h
    rw [ptL, ptL_out vs _ (o + 1) (o + 0) (by omega), Nat.add_zero, Array.getElem?_setIfInBounds_self, if_pos (by omega)]
    rfl
  | v :: vs, C, o, j + 1, h, hj => by
    simp at h hj
    rw [ptL, show o + (j + 1) = (o + 1) + j by omega, ptL_in vs _ (o + 1) j (by simp; omega) hj]
    simp
end Go.Proofs.YtpfighhhemnhaaaGreat

namespace Go.Proofs.YtpfighhhemnhaaaGreat
open Go.RowKit

/-- the kinds of the cells of a type that holds integers and bools alone (none: a bool) -/
def flatFields (P : Program) (F : TypeId → Option (List (Option IntKind))) : Nat → List Field → Option (List (Option IntKind))
  | _, [] => some []
  | off, f :: fs =>
    match F f.type with
    | some ks => if f.offset = off ∧ (f.name == "_") = false ∧ (P.info? f.type).map (·.size) = some ks.length ∧ 0 < ks.length then (flatFields P F (off + ks.length) fs).map (ks ++ ·) else none
    | none => none
def flatOf (P : Program) : Nat → TypeId → Option (List (Option IntKind))
  | 0, _ => none
  | f + 1, t =>
    match P.underlying t with
    | some (.int k) => some [some k]
    | some .bool => some [none]
    | some (.struct fs) => if P.stoodInHeld t = false then flatFields P (flatOf P f) 0 fs.toList else none
    | some (.array n e) =>
      match flatOf P f e with
      | some ks => if (P.info? e).map (·.size) = some ks.length ∧ 0 < ks.length then some (List.replicate n ks).flatten else none
      | none => none
    | _ => none

def kindV : Option IntKind → Value → Bool
  | some k, .int k' _ => k == k'
  | none, .bool _ => true
  | _, _ => false
def fits : List (Option IntKind) → List Value → Bool
  | [], [] => true
  | k :: ks, v :: vs => kindV k v && fits ks vs
  | _, _ => false
def sameV : Value → Value → Bool
  | .int _ a, .int _ b => a == b
  | .bool a, .bool b => a == b
  | _, _ => false
def sameL : List Value → List Value → Bool
  | [], [] => true
  | x :: xs, y :: ys => sameV x y && sameL xs ys
  | _, _ => false

theorem fits_length : ∀ {ks : List (Option IntKind)} {vs : List Value}, fits ks vs = true → vs.length = ks.length
  | [], [], _ => rfl
  | _ :: ks, _ :: vs, h => by
    simp only [fits, Bool.and_eq_true] at h
    simp [fits_length h.2]
  | [], _ :: _, h => by simp [fits] at h
  | _ :: _, [], h => by simp [fits] at h
theorem fits_append : ∀ {ks ls : List (Option IntKind)} {vs : List Value}, fits (ks ++ ls) vs = true → fits ks (vs.take ks.length) = true ∧ fits ls (vs.drop ks.length) = true
  | [], ls, vs, h => by simpa [fits] using h
  | k :: ks, ls, [], h => by simp [fits] at h
  | k :: ks, ls, v :: vs, h => by
    simp only [List.cons_append, fits, Bool.and_eq_true] at h
    have := fits_append h.2
    simp [fits, h.1, this]
theorem sameL_append : ∀ {a b c d : List Value}, a.length = c.length → sameL (a ++ b) (c ++ d) = (sameL a c && sameL b d)
  | [], b, [], d, _ => by simp [sameL]
  | x :: a, b, y :: c, d, h => by
    have := sameL_append (a := a) (b := b) (c := c) (d := d) (by simpa using h)
    simp [sameL, this, Bool.and_assoc]
  | [], _, _ :: _, _, h => by simp at h
  | _ :: _, _, [], _, h => by simp at h

/-- the value of a type whose cells are these -/
def whole (P : Program) (t : TypeId) (l : List Value) : Value :=
  match P.underlying t with
  | some (.struct _) | some (.array _ _) => .agg l.toArray
  | _ => l.headD undef

section
variable {P : Program}

theorem run_sizeOf {t : TypeId} {n : Nat} (hs : (P.info? t).map (·.size) = some n) (w : World) : (sizeOf t).run P w = .ok n w := by
  cases hq : P.info? t with
  | none => simp [hq] at hs
  | some i => simp [hq] at hs; simp [sizeOf, typeInfo, hq, hs]

theorem run_part {t : TypeId} {n : Nat} (hs : (P.info? t).map (·.size) = some n) (hu : (P.underlying t).isSome = true) (hn : (∀ fs, P.underlying t ≠ some (.struct fs)) → (∀ m e, P.underlying t ≠ some (.array m e)) → n = 1)
    (l : List Value) (off : Nat) (ho : off + n ≤ l.length) (w : World) : (part t l.toArray off).run P w = .ok (whole P t ((l.drop off).take n)) w := by
  obtain ⟨d, hd⟩ := Option.isSome_iff_exists.1 hu
  have hplain : (∀ fs, d ≠ .struct fs) → (∀ m e, d ≠ .array m e) → (part t l.toArray off).run P w = .ok (whole P t ((l.drop off).take n)) w := by
    intro h1 h2
    have hn1 : n = 1 := hn (fun fs h => h1 fs (by rw [hd] at h; exact Option.some.inj h)) (fun m e h => h2 m e (by rw [hd] at h; exact Option.some.inj h))
    subst hn1
    have hlt : off < l.length := by omega
    have e1 : (isAgg t).run P w = .ok false w := by
      cases d <;> simp_all [isAgg, run_underlying hd]
    have e2 : whole P t ((l.drop off).take 1) = l[off] := by
      have : (l.drop off).take 1 = [l[off]] := by rw [List.drop_eq_getElem_cons hlt]; rfl
      cases d <;> simp_all [whole]
    simp [part, e1, hlt, e2]
  cases d with
  | struct fs =>
    have e1 : (isAgg t).run P w = .ok true w := by simp [isAgg, run_underlying hd]
    simp [part, e1, run_sizeOf hs, whole, hd]
  | array m e =>
    have e1 : (isAgg t).run P w = .ok true w := by simp [isAgg, run_underlying hd]
    simp [part, e1, run_sizeOf hs, whole, hd]
  | _ => exact hplain (by simp) (by simp)

theorem flatOf_some {f : Nat} {t : TypeId} {ks : List (Option IntKind)} (h : flatOf P f t = some ks) :
    (P.underlying t).isSome = true ∧ ((∀ fs, P.underlying t ≠ some (.struct fs)) → (∀ m e, P.underlying t ≠ some (.array m e)) → ks.length = 1) := by
  cases f with
  | zero => simp [flatOf] at h
  | succ f =>
    simp only [flatOf] at h
    split at h
    · rename_i k hk; simp at h; subst h; exact ⟨by simp [hk], fun _ _ => rfl⟩
    · rename_i hk; simp at h; subst h; exact ⟨by simp [hk], fun _ _ => rfl⟩
    · rename_i fs hk; exact ⟨by simp [hk], fun h1 _ => absurd hk (h1 fs)⟩
    · rename_i n e hk; exact ⟨by simp [hk], fun _ h2 => absurd hk (h2 n e)⟩
    · simp at h

theorem run_eqFields {f d : Nat} {w : World}
    (ih : ∀ (t : TypeId) (ks : List (Option IntKind)), flatOf P f t = some ks → ∀ xs ys : List Value, fits ks xs = true → fits ks ys = true → (Op.equalIn d t (whole P t xs) (whole P t ys)).run P w = .ok (sameL xs ys) w)
    (xs ys : List Value) (hl : xs.length = ys.length) : ∀ (fs : List Field) (off : Nat) (ks : List (Option IntKind)), flatFields P (flatOf P f) off fs = some ks → fits ks (xs.drop off) = true → fits ks (ys.drop off) = true →
      (Op.eqFields d xs.toArray ys.toArray fs).run P w = .ok (sameL (xs.drop off) (ys.drop off)) w
  | [], off, ks, h, h1, h2 => by
    simp [flatFields] at h; subst h
    have e1 := fits_length h1
    have e2 := fits_length h2
    rw [List.length_eq_zero_iff.1 e1, List.length_eq_zero_iff.1 e2]
    simp [Op.eqFields, sameL]
  | fd :: fs, off, ks, h, h1, h2 => by
    simp only [flatFields] at h
    split at h
    · rename_i k1 hk1
      split at h
      · rename_i hc
        obtain ⟨hoff, hname, hsz, hpos⟩ := hc
        rw [Option.map_eq_some_iff] at h
        obtain ⟨k2, hk2, rfl⟩ := h
        obtain ⟨a1, a2⟩ := fits_append h1
        obtain ⟨b1, b2⟩ := fits_append h2
        rw [List.drop_drop] at a2 b2
        obtain ⟨hu, hn⟩ := flatOf_some hk1
        have l1 := fits_length a1
        have l2 := fits_length b1
        simp only [List.length_take, List.length_drop] at l1 l2
        have hne : (fd.name ≠ "_") := by simpa using hname
        simp only [Op.eqFields, hne, ne_eq, not_false_eq_true, if_true, Sem.run_bind, hoff]
        rw [run_part hsz hu hn xs off (by omega)]
        simp only [Result.andThen_ok]
        rw [run_part hsz hu hn ys off (by omega)]
        simp only [Result.andThen_ok]
        rw [ih fd.type k1 hk1 _ _ a1 b1]
        simp only [Result.andThen_ok]
        have key : sameL (xs.drop off) (ys.drop off) = (sameL ((xs.drop off).take k1.length) ((ys.drop off).take k1.length) && sameL (xs.drop (off + k1.length)) (ys.drop (off + k1.length))) := by
          rw [← sameL_append (by simp [hl])]
          rw [← List.drop_drop, ← List.drop_drop, List.take_append_drop, List.take_append_drop]
        rw [key]
        cases hsame : sameL ((xs.drop off).take k1.length) ((ys.drop off).take k1.length)
        · simp
        · simp only [Bool.not_true, Bool.false_eq_true, if_false, Bool.true_and]
          exact run_eqFields ih xs ys hl fs _ k2 hk2 a2 b2
      · simp at h
    · simp at h

theorem run_eqRounds {d : Nat} {w : World} {e : TypeId} {ks : List (Option IntKind)} (hpos : 0 < ks.length) (hsz : (P.info? e).map (·.size) = some ks.length) (hu : (P.underlying e).isSome = true)
    (hn : (∀ fs, P.underlying e ≠ some (.struct fs)) → (∀ m e', P.underlying e ≠ some (.array m e')) → ks.length = 1)
    (ih : ∀ xs ys : List Value, fits ks xs = true → fits ks ys = true → (Op.equalIn d e (whole P e xs) (whole P e ys)).run P w = .ok (sameL xs ys) w)
    (xs ys : List Value) (hl : xs.length = ys.length) : ∀ (n i : Nat), fits (List.replicate n ks).flatten (xs.drop (i * ks.length)) = true → fits (List.replicate n ks).flatten (ys.drop (i * ks.length)) = true →
      (forIn (m := Sem) (List.range' i n) ((none, ()) : Option Bool × Unit) (fun i _ => do
        let a ← part e xs.toArray (i * ks.length)
        let b ← part e ys.toArray (i * ks.length)
        let r ← Op.equalIn d e a b
        if (!r) = true then pure (ForInStep.done (some false, ())) else pure (ForInStep.yield (none, ())))).run P w =
      .ok (if sameL (xs.drop (i * ks.length)) (ys.drop (i * ks.length)) then (none, ()) else (some false, ())) w
  | 0, i, h1, h2 => by
    have e1 := fits_length h1
    have e2 := fits_length h2
    simp only [List.replicate_zero, List.flatten_nil, List.length_nil] at e1 e2
    rw [List.length_eq_zero_iff.1 e1, List.length_eq_zero_iff.1 e2]
    simp [sameL]
  | n + 1, i, h1, h2 => by
    rw [List.replicate_succ, List.flatten_cons] at h1 h2
    obtain ⟨a1, a2⟩ := fits_append h1
    obtain ⟨b1, b2⟩ := fits_append h2
    have hmul : i * ks.length + ks.length = (i + 1) * ks.length := by rw [Nat.succ_mul]
    rw [List.drop_drop, hmul] at a2 b2
    have l1 := fits_length a1
    have l2 := fits_length b1
    simp only [List.length_take, List.length_drop] at l1 l2
    simp only [List.range'_succ, List.forIn_cons, Sem.run_bind]
    · rw [run_part hsz hu hn xs _ (by omega)]
      simp only [Result.andThen_ok]
      rw [run_part hsz hu hn ys _ (by omega)]
      simp only [Result.andThen_ok]
      rw [ih _ _ a1 b1]
      simp only [Result.andThen_ok]
      have key : sameL (xs.drop (i * ks.length)) (ys.drop (i * ks.length)) =
          (sameL ((xs.drop (i * ks.length)).take ks.length) ((ys.drop (i * ks.length)).take ks.length) && sameL (xs.drop ((i + 1) * ks.length)) (ys.drop ((i + 1) * ks.length))) := by
        rw [← sameL_append (by simp [hl]), ← hmul]
        rw [← List.drop_drop, ← List.drop_drop, List.take_append_drop, List.take_append_drop]
      rw [key]
      cases hsame : sameL ((xs.drop (i * ks.length)).take ks.length) ((ys.drop (i * ks.length)).take ks.length)
      · simp
      · simp only [Bool.not_true, Bool.false_eq_true, if_false, Bool.true_and, Sem.run_pure, Result.andThen_ok]
        exact run_eqRounds hpos hsz hu hn ih xs ys hl n (i + 1) a2 b2

/-- '==' on a type of integers and bools compares the cells. -/
theorem run_equal_flat (w : World) : ∀ (f : Nat) (t : TypeId) (ks : List (Option IntKind)), flatOf P f t = some ks → ∀ d, f ≤ d → ∀ xs ys : List Value, fits ks xs = true → fits ks ys = true →
    (Op.equalIn d t (whole P t xs) (whole P t ys)).run P w = .ok (sameL xs ys) w
  | 0, t, ks, h, _, _, _, _, _, _ => by simp [flatOf] at h
  | f + 1, t, ks, h, d, hd, xs, ys, h1, h2 => by
    obtain ⟨d, rfl⟩ : ∃ d', d = d' + 1 := ⟨d - 1, by omega⟩
    have ih := fun t ks h => run_equal_flat w f t ks h d (by omega)
    have l1 := fits_length h1
    have l2 := fits_length h2
    simp only [flatOf] at h
    split at h
    · rename_i k hk
      simp at h; subst h
      match xs, ys, h1, h2 with
      | [x], [y], h1, h2 =>
        cases x <;> simp [fits, kindV] at h1
        cases y <;> simp [fits, kindV] at h2
        subst h1; subst h2
        simp [whole, hk, Op.equalIn, run_underlying hk, sameL, sameV]
    · rename_i hk
      simp at h; subst h
      match xs, ys, h1, h2 with
      | [x], [y], h1, h2 =>
        cases x <;> simp [fits, kindV] at h1
        cases y <;> simp [fits, kindV] at h2
        simp [whole, hk, Op.equalIn, run_underlying hk, sameL, sameV]
    · rename_i fs hk
      split at h
      · rename_i hst
        have hf : P.underlying t = some (.struct (P.fieldsOf t)) := by simp [Program.fieldsOf, hk]
        have e := run_equalIn_struct (P := P) w d t xs.toArray ys.toArray hf hst
        have hff : P.fieldsOf t = fs := by simp [Program.fieldsOf, hk]
        rw [hff] at e
        simp only [whole, hk]
        rw [e, run_eqFields ih xs ys (by omega) fs.toList 0 ks h (by simpa using h1) (by simpa using h2)]
        simp
      · simp at h
    · rename_i n e hk
      split at h
      · rename_i k1 hk1
        split at h
        · rename_i hc
          obtain ⟨hsz, hpos⟩ := hc
          simp at h; subst h
          obtain ⟨hu, hn⟩ := flatOf_some hk1
          have hr := run_eqRounds hpos hsz hu hn (ih e k1 hk1) xs ys (by omega) n 0 (by simpa using h1) (by simpa using h2)
          simp only [whole, hk]
          rw [Op.equalIn]
          simp only [Sem.run_bind, run_underlying hk, Result.andThen_ok, run_sizeOf hsz]
          simp only [Std.Legacy.Range.forIn_eq_forIn_range', Std.Legacy.Range.size]
          simp only [Nat.sub_zero, Nat.add_sub_cancel, Nat.div_one]
          rw [hr]
          simp only [Nat.zero_mul, List.drop_zero, Result.andThen_ok]
          cases sameL xs ys <;> simp
        · simp at h
      · simp at h
    · simp at h

theorem equal_struct {t : TypeId} {fs : Array Field} {ks : List (Option IntKind)} (hu : P.underlying t = some (.struct fs)) (h : flatOf P 10 t = some ks) (xs ys : List Value) (h1 : fits ks xs = true) (h2 : fits ks ys = true) (W : World) :
    (Op.equalIn 10000 t (.agg xs.toArray) (.agg ys.toArray)).run P W = .ok (sameL xs ys) W := by
  have := run_equal_flat W 10 t ks h 10000 (by omega) xs ys h1 h2
  simpa only [whole, hu] using this
theorem sameL_refl : ∀ {ks : List (Option IntKind)} {l : List Value}, fits ks l = true → sameL l l = true
  | [], [], _ => rfl
  | k :: ks, v :: l, h => by
    simp only [fits, Bool.and_eq_true] at h
    have h1 := sameL_refl h.2
    cases v <;> cases k <;> simp_all [kindV, sameL, sameV]
  | [], _ :: _, h => by simp [fits] at h
  | _ :: _, [], h => by simp [fits] at h
end
end Go.Proofs.YtpfighhhemnhaaaGreat
namespace Go.Proofs.YtpfighhhemnhaaaGreat
open Go.ChangeShapes Go.WideShapes Go.ChangeAt Go.RowKit

/-- cells of these kinds, the integers within their kinds -/
def fitsW : List (Option IntKind) → List Value → Prop
  | [], [] => True
  | some k :: ks, v :: vs => (∃ n, v = .int k n ∧ (Lit.int k n).wf = true) ∧ fitsW ks vs
  | none :: ks, v :: vs => (∃ b, v = .bool b) ∧ fitsW ks vs
  | _, _ => False

theorem fitsW.append : ∀ {ks ls : List (Option IntKind)} {vs us : List Value}, fitsW ks vs → fitsW ls us → fitsW (ks ++ ls) (vs ++ us)
  | [], ls, [], us, _, h => h
  | some k :: ks, ls, v :: vs, us, h, h' => ⟨h.1, fitsW.append h.2 h'⟩
  | none :: ks, ls, v :: vs, us, h, h' => ⟨h.1, fitsW.append h.2 h'⟩
  | [], _, _ :: _, _, h, _ => by simp [fitsW] at h
  | some _ :: _, _, [], _, h, _ => by simp [fitsW] at h
  | none :: _, _, [], _, h, _ => by simp [fitsW] at h

theorem fits_int {k : IntKind} {ks : List (Option IntKind)} {cs : List Value} (h : fitsW (some k :: ks) cs) : ∃ n vs, cs = .int k n :: vs ∧ (Lit.int k n).wf = true ∧ fitsW ks vs := by
  cases cs with
  | nil => simp [fitsW] at h
  | cons v vs =>
    obtain ⟨⟨n, rfl, hw⟩, h2⟩ := h
    exact ⟨n, vs, rfl, hw, h2⟩
theorem fits_nil {cs : List Value} (h : fitsW [] cs) : cs = [] := by
  cases cs with
  | nil => rfl
  | cons v vs => simp [fitsW] at h
section
variable {H : Type} {enc : TypeId × Value → H} {P : Program} {w : World} {base : Nat} {spare : Nat → Bool} {held : Bool}

theorem cellsOf_of {t : TypeId} {n : Nat} (h : (P.info? t).map (·.size) = some n) : P.cellsOf t = n := by simp [Program.cellsOf, h]

theorem trod_fields {f n : Nat} (ih : ∀ (t : TypeId) (ks : List (Option IntKind)) (cs : List Value) (x : DataW H × List MemPlace), flatOf P f t = some ks → cs.length = ks.length → DataW.trod enc P w base spare held n t cs = some x → fitsW ks cs)
    (cs : List Value) : ∀ (fs : List Field) (off : Nat) (ks : List (Option IntKind)), flatFields P (flatOf P f) off fs = some ks → cs.length = off + ks.length →
      (∀ fd ∈ fs, ∃ y, DataW.trod enc P w base spare held n fd.type ((cs.drop fd.offset).take (P.cellsOf fd.type)) = some y) → fitsW ks (cs.drop off)
  | [], off, ks, h, hl, _ => by
    simp [flatFields] at h; subst h
    rw [List.drop_eq_nil_of_le (by simp at hl; omega)]
    trivial
  | fd :: fs, off, ks, h, hl, hall => by
    simp only [flatFields] at h
    split at h
    · rename_i k1 hk1
      split at h
      · rename_i hc
        obtain ⟨hoff, hname, hsz, hpos⟩ := hc
        rw [Option.map_eq_some_iff] at h
        obtain ⟨k2, hk2, rfl⟩ := h
        simp only [List.length_append] at hl
        obtain ⟨y, hy⟩ := hall fd (by simp)
        rw [hoff, cellsOf_of hsz] at hy
        have h1 := ih fd.type k1 _ y hk1 (by simp; omega) hy
        have h2 := trod_fields ih cs fs (off + k1.length) k2 hk2 (by omega) (fun g hg => hall g (by simp [hg]))
        have := h1.append h2
        rwa [← List.drop_drop, List.take_append_drop] at this
      · simp at h
    · simp at h

theorem trod_rounds {f n : Nat} {e : TypeId} {ks : List (Option IntKind)} (hsz : (P.info? e).map (·.size) = some ks.length)
    (ih : ∀ (cs : List Value) (x : DataW H × List MemPlace), cs.length = ks.length → DataW.trod enc P w base spare held n e cs = some x → fitsW ks cs)
    (cs : List Value) : ∀ (m i : Nat), cs.length = (i + m) * ks.length → (∀ j, i ≤ j → j < i + m → ∃ y, DataW.trod enc P w base spare held n e ((cs.drop (j * P.cellsOf e)).take (P.cellsOf e)) = some y) →
      fitsW (List.replicate m ks).flatten (cs.drop (i * ks.length))
  | 0, i, hl, _ => by
    rw [List.drop_eq_nil_of_le (by simp at hl; omega)]
    trivial
  | m + 1, i, hl, hall => by
    obtain ⟨y, hy⟩ := hall i (by omega) (by omega)
    rw [cellsOf_of hsz] at hy
    have hmul : i * ks.length + ks.length = (i + 1) * ks.length := by rw [Nat.succ_mul]
    have hle : (i + 1) * ks.length ≤ (i + (m + 1)) * ks.length := Nat.mul_le_mul_right _ (by omega)
    have h1 := ih _ y (by simp; omega) hy
    have h2 := trod_rounds (f := f) hsz ih cs m (i + 1) (by rw [hl]; congr 1; omega) (fun j h1 h2 => hall j (by omega) (by omega))
    have := h1.append h2
    rw [← hmul, ← List.drop_drop, List.take_append_drop] at this
    rw [List.replicate_succ, List.flatten_cons]
    exact this

theorem trod_flat : ∀ (f : Nat) (t : TypeId) (ks : List (Option IntKind)) (n : Nat) (cs : List Value) (x : DataW H × List MemPlace), flatOf P f t = some ks → cs.length = ks.length →
    DataW.trod enc P w base spare held n t cs = some x → fitsW ks cs
  | 0, t, ks, n, cs, x, h, _, _ => by simp [flatOf] at h
  | f + 1, t, ks, n, cs, x, h, hl, hx => by
    have ih := fun t ks n cs x => trod_flat f t ks n cs x
    simp only [flatOf] at h
    split at h
    · rename_i k hk
      simp at h; subst h
      obtain ⟨z, rfl, _, hw⟩ := DataW.trod_int hk hx
      exact ⟨⟨z, rfl, hw⟩, trivial⟩
    · rename_i hk
      simp at h; subst h
      obtain ⟨b, rfl, _⟩ := DataW.trod_bool hk hx
      exact ⟨⟨b, rfl⟩, trivial⟩
    · rename_i fs hk
      split at h
      · obtain ⟨xs, m, _, _, _, hxl, hf⟩ := DataW.trod_struct hk hx
        have := trod_fields (fun t ks cs x => ih t ks m cs x) cs fs.toList 0 ks h (by omega) (fun fd hfd => by
          obtain ⟨j, hj, rfl⟩ := List.getElem_of_mem hfd
          have hj' : j < fs.size := by simpa using hj
          have h1 := hf j fs[j] (by simp [hj'])
          rw [List.getElem?_eq_getElem (by omega)] at h1
          exact ⟨_, by simpa using h1⟩)
        simpa using this
      · simp at h
    · rename_i m e hk
      split at h
      · rename_i k1 hk1
        split at h
        · rename_i hc
          simp at h; subst h
          obtain ⟨xs, n', _, _, _, hxl, hf⟩ := DataW.trod_array hk hx
          have := trod_rounds (f := f) hc.1 (fun cs x => ih e k1 n' cs x hk1) cs m 0 (by simp at hl; simpa using hl) (fun j _ hj => by
            have h1 := hf j (by omega)
            rw [List.getElem?_eq_getElem (by omega)] at h1
            exact ⟨_, h1⟩)
          simpa using this
        · simp at h
      · simp at h
    · simp at h

end
end Go.Proofs.YtpfighhhemnhaaaGreat
namespace Go.Proofs.YtpfighhhemnhaaaGreat
open Go.ChangeShapes Go.WideShapes Go.ChangeAt Go.RowKit Go.Deep
section
variable {H : Type} {enc : TypeId × Value → H} {P : Program} {w : World} {base : Nat} {spare : Nat → Bool} {held : Bool}

theorem cell_lt {w : World} {b o : Nat} {v : Value} (h : w.cell? ⟨b, o, none⟩ = some v) : b < w.heap.size := by
  unfold World.cell? at h
  split at h
  · rename_i hx; exact (Array.getElem?_eq_some_iff.1 hx).1
  · simp at h

/-- the cells of n rows, each of so many cells, fit these kinds -/
def rows (w : World) (b off sz n : Nat) (ks : List (Option IntKind)) : Prop :=
  ∀ i, i < n → ∃ cs : List Value, fitsW ks cs ∧ ∀ j v, cs[j]? = some v → w.cell? ⟨b, off + i * sz + j, none⟩ = some v

end
end Go.Proofs.YtpfighhhemnhaaaGreat

namespace Go.Proofs.YtpfighhhemnhaaaGreat
open Go.RowKit

/-- every row has sz cells, each a plain one -/
def Wide (sz : Nat) (l : List (List Value)) : Prop := ∀ r ∈ l, r.length = sz ∧ ∀ u ∈ r, u.oneCell' = true
theorem Wide.nil (sz : Nat) : Wide sz [] := fun _ h => by simp at h
theorem Wide.append {sz : Nat} {l m : List (List Value)} (h1 : Wide sz l) (h2 : Wide sz m) : Wide sz (l ++ m) := fun r hr => by
  rcases List.mem_append.1 hr with h | h
  · exact h1 r h
  · exact h2 r h
theorem Wide.one {sz : Nat} {r : List Value} (h : r.length = sz) (h1 : ∀ u ∈ r, u.oneCell' = true) : Wide sz [r] := fun x hx => by
  obtain rfl := List.mem_singleton.1 hx
  exact ⟨h, h1⟩
theorem Wide.length {sz : Nat} : ∀ {l : List (List Value)}, Wide sz l → l.flatten.length = l.length * sz
  | [], _ => by simp
  | r :: l, h => by
    rw [List.flatten_cons, List.length_append, Wide.length (fun x hx => h x (List.mem_cons_of_mem _ hx)), (h r (List.mem_cons_self ..)).1, List.length_cons, Nat.add_mul]
    omega
theorem Wide.at {sz : Nat} : ∀ {l : List (List Value)} {i : Nat} {r : List Value}, Wide sz l → l[i]? = some r → ∀ j, j < sz → l.flatten[i * sz + j]? = r[j]?
  | y :: l, 0, r, hw, h, j, hj => by
    simp at h
    subst h
    rw [List.flatten_cons, Nat.zero_mul, Nat.zero_add, List.getElem?_append_left (by rw [(hw y (List.mem_cons_self ..)).1]; exact hj)]
  | y :: l, i + 1, r, hw, h, j, hj => by
    simp at h
    have hy := (hw y (List.mem_cons_self ..)).1
    have e : (i + 1) * sz + j = sz + (i * sz + j) := by rw [Nat.add_mul]; omega
    rw [List.flatten_cons, e, List.getElem?_append_right (by omega), hy, Nat.add_sub_cancel_left]
    exact Wide.at (fun x hx => hw x (List.mem_cons_of_mem _ hx)) h j hj
theorem Wide.plain {sz : Nat} {l : List (List Value)} (h : Wide sz l) : ∀ u ∈ l.flatten, u.oneCell' = true := fun u hu => by
  obtain ⟨r, hr, hx⟩ := List.mem_flatten.1 hu
  exact (h r hr).2 u hx
/-- the rows l lie behind an address -/
def RowsAt (W : World) (b off sz : Nat) (l : List (List Value)) : Prop := ∀ (i : Nat) (r : List Value), l[i]? = some r → ∀ j, j < sz → W.cell? ⟨b, off + i * sz + j, none⟩ = r[j]?
theorem RowsAt.still {W W' : World} {b off sz B : Nat} {l : List (List Value)} (h : RowsAt W b off sz l) (hb : Below B W W') (hB : b < B) : RowsAt W' b off sz l := fun i r hi j hj => by
  rw [hb.cell hB]
  exact h i r hi j hj
theorem RowsAt.news {W : World} {b off sz : Nat} {l : List (List Value)} (h : RowsAt W b off sz l) (hw : Wide sz l) (hz : 0 < sz) (j : Nat) (u : Value) (hu : l.flatten[j]? = some u) : W.cell? ((⟨b, off, none⟩ : Addr).add j) = some u := by
  have hj : j < l.length * sz := by rw [← hw.length]; exact (List.getElem?_eq_some_iff.1 hu).1
  have hd : j / sz < l.length := Nat.div_lt_of_lt_mul (by rw [Nat.mul_comm]; exact hj)
  have hm : j % sz < sz := Nat.mod_lt _ hz
  have e : j / sz * sz + j % sz = j := by rw [Nat.mul_comm]; exact Nat.div_add_mod j sz
  have h1 := hw.at (List.getElem?_eq_getElem hd) (j % sz) hm
  rw [e, hu] at h1
  have h2 := h (j / sz) _ (List.getElem?_eq_getElem hd) (j % sz) hm
  rw [← h1] at h2
  rw [Go.WideShapes.add_plain, ← h2]
  congr 2
  omega
/-- v is a slice of the call's own (from block base on) that holds the rows l -/
def OwnR (W : World) (base t sz : Nat) (v : Value) (l : List (List Value)) : Prop := Wide sz l ∧ W.ownsRow base t sz v l.length l.flatten
section
variable {W W' : World} {base base' t sz : Nat} {v : Value} {l : List (List Value)}
theorem OwnR.nil (W : World) (base t sz : Nat) : OwnR W base t sz (.slice none 0 0) [] := ⟨Wide.nil sz, by simp, Or.inl ⟨rfl, rfl⟩⟩
theorem OwnR.rows (h : OwnR W base t sz v l) (hn : 0 < l.length) :
    ∃ g cap cur, v = .slice (some ⟨g, 0, none⟩) l.length cap ∧ base ≤ g ∧ W.heap[g]? = some (.cells cur t) ∧ RowsAt W g 0 sz l ∧ l.length ≤ cap ∧ cap ≤ maxLen ∧ cur.size = cap * sz := by
  rcases h.2.2 with ⟨_, h2⟩ | ⟨g, cap, cur, h1, hB, h2, h3, h4, h5, h6⟩
  · omega
  · refine ⟨g, cap, cur, h1, hB, h2, fun i r hi j hj => ?_, h3, h4, h5⟩
    have hil : i < l.length := (List.getElem?_eq_some_iff.1 hi).1
    have hk : i * sz + j < l.length * sz := by
      have : (i + 1) * sz ≤ l.length * sz := Nat.mul_le_mul_right sz hil
      rw [Nat.add_mul] at this
      omega
    rw [cell_row h2, Nat.zero_add, ← h.1.at hi j hj, ← h6, List.getElem?_take_of_lt hk, Array.getElem?_toList]
theorem OwnR.slice (h : OwnR W base t sz v l) : ∃ a cap, v = .slice a l.length cap := by
  rcases h.2.2 with ⟨h1, h2⟩ | ⟨g, cap, cur, h1, _⟩
  · exact ⟨none, 0, by rw [h1, h2]⟩
  · exact ⟨_, cap, h1⟩
theorem OwnR.heap (h : OwnR W base t sz v l) (hB : ∀ g x, W.heap[g]? = some x → base ≤ g → W'.heap[g]? = some x) : OwnR W' base t sz v l := by
  refine ⟨h.1, h.2.1, ?_⟩
  rcases h.2.2 with h1 | ⟨g, cap, cur, h1, hb, h2, h3⟩
  · exact Or.inl h1
  · exact Or.inr ⟨g, cap, cur, h1, hb, hB _ _ h2 hb, h3⟩
theorem OwnR.grow (h : OwnR W base t sz v l) (hB : Below W.heap.size W W') : OwnR W' base t sz v l := h.heap fun _ _ hx _ => heap_still hB hx
theorem OwnR.mono (h : OwnR W base t sz v l) (hb : base' ≤ base) : OwnR W base' t sz v l := by
  refine ⟨h.1, h.2.1, ?_⟩
  rcases h.2.2 with h1 | ⟨g, cap, cur, h1, hbb, h3⟩
  · exact Or.inl h1
  · exact Or.inr ⟨g, cap, cur, h1, Nat.le_trans hb hbb, h3⟩
theorem OwnR.ownBlock (h : OwnR W base t sz v l) (k : Nat) (hk : v.ownBlock = some k) : base ≤ k := by
  rcases h.2.2 with ⟨h1, _⟩ | ⟨g, cap, cur, h1, hB, _⟩
  · subst h1; cases hk
  · subst h1; injection hk with hk; subst hk; exact hB
theorem OwnR.joined {n : Nat} {m : List (List Value)} (hn : n = l.length) (hm : Wide sz m) (hl : Wide sz l) (h : W.ownsRow base t sz v (n + m.length) (l.flatten ++ m.flatten)) : OwnR W base t sz v (l ++ m) := by
  subst hn
  refine ⟨hl.append hm, ?_⟩
  rw [List.length_append, List.flatten_append]
  exact h
/-- append of rows to rows of the call's own, at the operation -/
theorem wpList_append_rows {P : Program} {ops : Array Oper} {rest : List Oper} {o : Oper} {a : Act} {Q : Exit → Act → World → Prop} (hgd : o.guard = none) (s x : Operand) (ty : TypeId)
    (ho : o.op = .call { callee := .builtin .append, args := #[s, x], argTypes := #[ty, ty] }) (base e : TypeId) (i : TypeInfo) (z : Value) (size bytes : Nat) (ht : P.underlying ty = some (.slice e)) (hi : P.info? e = some i) (hz : i.zero = some z)
    (hsize : i.size = size) (hby : i.bytes = bytes) (hzs : z.cells.size = size) (hsz : 0 < size) (v : Value) (l m : List (List Value)) (hs : a.eval s = v) (hown : OwnR W base e size v l)
    (b off n c : Nat) (hn : n = m.length) (hx : a.eval x = .slice (some ⟨b, off, none⟩) n c) (hm : RowsAt W b off size m) (hw : Wide size m)
    (h63 : l.length + m.length ≤ maxLen) (hbytes : (l.length + m.length) * bytes ≤ 140737488355328) (hbase : base ≤ W.heap.size)
    (h : ∀ v' w', OwnR w' base e size v' (l ++ m) → W.grownBy w' v.ownBlock → (v'.ownBlock = v.ownBlock ∨ v'.ownBlock = some W.heap.size) → wpList P ops Q rest (a.put o.dst v') w') : wpList P ops Q (o :: rest) a W := by
  subst hn
  refine wpList_append_own_at W hgd s x ty ho base e i z size bytes ht hi hz hsize hby hzs hsz v l.length l.flatten hs hown.2 ⟨b, off, none⟩ m.length c m.flatten hx hw.length (hm.news hw hsz) hw.plain h63 hbytes hbase ?_
  intro v' w' h1 h2 _ h4
  exact h v' w' (OwnR.joined rfl hw hown.1 h1) h2 h4
end
end Go.Proofs.YtpfighhhemnhaaaGreat
namespace Go.Proofs.YtpfighhhemnhaaaGreat
open Go.RowKit Go.Maps

def heldR (v : Value) : Option (DataW Value × List MemPlace) := some (.held v, [])
/-- block b is a map of at most n entries, whose element at a key is what 'get' says -/
def MapAt (P : Program) (W : World) (k : TypeId) (b n : Nat) (get : Lit → Option Value) : Prop :=
  ∃ D : DataW Value, W.ownsMap P k heldR b n D ∧ (∀ kl z, D.atKey kl (.held z) = .held ((get kl).getD z)) ∧ ∀ kl, Maps.has D kl = (get kl).isSome
def putG (get : Lit → Option Value) (k : Lit) (v : Value) : Lit → Option Value := fun x => if x.sameKey k = true then some v else get x
section
variable {P : Program} {W W' : World} {k t e : TypeId} {b n : Nat} {get : Lit → Option Value}
theorem MapAt.made (W : World) : MapAt P (W.alloc (.map #[] 0)) k W.heap.size 0 (fun _ => none) :=
  ⟨.map [], World.ownsMap_made W P k heldR, fun _ _ => rfl, fun _ => rfl⟩
theorem MapAt.kept {row : Option Nat} (h : MapAt P W k b n get) (hg : W.grownBy W' row) (hne : some b ≠ row) : MapAt P W' k b n get := by
  obtain ⟨D, h1, h2⟩ := h
  exact ⟨D, h1.kept hg hne, h2⟩
theorem below_grownBy (h : Below W.heap.size W W') : W.grownBy W' none := ⟨h.os, h.tape, h.output, h.size, fun k hk _ => h.block k hk⟩
theorem MapAt.grow (h : MapAt P W k b n get) (hb : Below W.heap.size W W') : MapAt P W' k b n get := h.kept (below_grownBy hb) (by simp)
theorem MapAt.lt (h : MapAt P W k b n get) : b < W.heap.size := by
  obtain ⟨D, h1, _⟩ := h
  exact h1.lt
theorem MapAt.mono (h : MapAt P W k b n get) {n' : Nat} (hn : n ≤ n') : MapAt P W k b n' get := by
  obtain ⟨D, h1, h2⟩ := h
  exact ⟨D, h1.mono hn, h2⟩
theorem MapAt.look (h : MapAt P W k b n get) (K : Keyed P k) (ht : P.underlying t = some (.map k e)) {z : Value} (hz : (zeroValue e).run P W = .ok z W) {key : Value} {kl : Lit} (hkey : keyOf P k key = some kl) :
    (Instr.lookup t (.map (some b)) key false).run P W = .ok ((get kl).getD z) W := by
  obtain ⟨D, h1, h2, _⟩ := h
  obtain ⟨v, ps, hrun, hv⟩ := h1.lookup K ht hz (zd := .held z) (zp := []) rfl hkey
  rw [h2] at hv
  simp only [heldR, Option.some.injEq, Prod.mk.injEq] at hv
  have := hv.1
  injection this with this
  rw [← this]
  exact hrun
theorem MapAt.put (h : MapAt P W k b n get) (K : Keyed P k) (ht : P.underlying t = some (.map k e)) (hn : n < maxLen) {key val : Value} {kl : Lit} (hkey : keyOf P k key = some kl) :
    ∃ w', (Instr.mapUpdate t (.map (some b)) key val).run P W = .ok () w' ∧ MapAt P w' k b (n + 1) (putG get kl val) ∧ W.grownBy w' (some b) := by
  obtain ⟨D, h1, h2, h3⟩ := h
  obtain ⟨w', hrun, hown, hg⟩ := h1.update K ht hn (d := .held val) (ps := []) hkey rfl
  refine ⟨w', hrun, ⟨_, hown, fun x z => ?_, fun x => ?_⟩, hg⟩
  · unfold putG
    by_cases hx : x = kl
    · subst hx
      rw [if_pos (WideAt.sameKey_self (K.key hkey)), atKey_put_same h1.isMap (K.key hkey)]
      rfl
    · rw [if_neg (by rw [sameKey_ne hx]; simp), atKey_put_other hx]
      exact h2 x z
  · unfold putG
    by_cases hx : x = kl
    · subst hx
      rw [if_pos (WideAt.sameKey_self (K.key hkey)), has_put_same h1.isMap (K.key hkey)]
      rfl
    · rw [if_neg (by rw [sameKey_ne hx]; simp), has_put_other hx]
      exact h3 x
theorem putG_same {k : Lit} {v : Value} (hk : WideAt.IsKeyLit k) : putG get k v k = some v := by
  unfold putG
  rw [if_pos (WideAt.sameKey_self hk)]
theorem putG_other {x k : Lit} {v : Value} (hne : x ≠ k) : putG get k v x = get x := by
  unfold putG
  rw [if_neg (by rw [sameKey_ne hne]; simp)]
/-- 'm[k] = v' at the operation -/
theorem wpList_put {ops : Array Oper} {rest : List Oper} {o : Oper} {a : Act} {Q : Exit → Act → World → Prop} (hg : o.guard = none) (m x v : Operand) (t : TypeId) (hop : o.op = Op.mapUpdate t m x v)
    (K : Keyed P k) (ht : P.underlying t = some (.map k e)) (hm : a.eval m = .map (some b)) (h : MapAt P W k b n get) (hn : n < maxLen) (key val : Value) (kl : Lit) (hx : a.eval x = key) (hv : a.eval v = val) (hkey : keyOf P k key = some kl)
    (hK : ∀ w', MapAt P w' k b (n + 1) (putG get kl val) → W.grownBy w' (some b) → wpList P ops Q rest (a.put o.dst undef) w') : wpList P ops Q (o :: rest) a W := by
  refine wpList_plain hg fun K' hK' => ?_
  obtain ⟨w', hrun, r1, r2⟩ := h.put K ht hn (val := val) hkey
  unfold Oper.wp
  simp [execOp, hop, hm, hx, hv, hrun, Result.andThen]
  exact hK' _ _ (hK w' r1 r2)
end
end Go.Proofs.YtpfighhhemnhaaaGreat
namespace Go.Proofs.YtpfighhhemnhaaaGreat
open Go.RowKit Go.Maps
open Go.ChangeMaps (heap_setBlock_same)
open Go.WideElems (other_key)

/-- the map in block b holds an entry for this key with this stamp -/
def Pend (W : World) (b : Nat) (key : Value) (s : Nat) : Prop := ∃ (es : Array MapEntry) (clock j : Nat) (e0 : MapEntry), W.heap[b]? = some (.map es clock) ∧ es[j]? = some e0 ∧ e0.key = key ∧ e0.born = s
theorem Pend.kept {W W' : World} {b s : Nat} {key : Value} {row : Option Nat} (h : Pend W b key s) (hg : W.grownBy W' row) (hne : some b ≠ row) : Pend W' b key s := by
  obtain ⟨es, clock, j, e0, hb, h2⟩ := h
  exact ⟨es, clock, j, e0, (hg.block b (Array.getElem?_eq_some_iff.1 hb).1 hne).trans hb, h2⟩
section
variable {P : Program} {W W' : World} {k t e : TypeId} {b n : Nat} {get : Lit → Option Value}
end
end Go.Proofs.YtpfighhhemnhaaaGreat
namespace Go.Proofs.YtpfighhhemnhaaaGreat
open Go.RowKit Go.Maps

/-- the range at block r over the map in block b ('left': the keys still to come; 'cnt': how many) -/
def RangeAt (P : Program) (W : World) (k : TypeId) (b r n : Nat) (get : Lit → Option Value) (left : Lit → Bool) (cnt : Nat) : Prop :=
  ∃ D : DataW Value, W.ranges P k heldR b r n D left cnt ∧ ∀ kl z, D.atKey kl (.held z) = .held ((get kl).getD z)
section
variable {P : Program} {W W' : World} {k t e : TypeId} {b r n cnt : Nat} {get : Lit → Option Value} {left : Lit → Bool}
theorem RangeAt.kept {row : Option Nat} (h : RangeAt P W k b r n get left cnt) (hg : W.grownBy W' row) (hb : some b ≠ row) (hr : some r ≠ row) : RangeAt P W' k b r n get left cnt := by
  obtain ⟨D, h1, h2⟩ := h
  exact ⟨D, h1.kept hg hb hr, h2⟩
theorem RangeAt.grow (h : RangeAt P W k b r n get left cnt) (hb : Below W.heap.size W W') : RangeAt P W' k b r n get left cnt := h.kept (below_grownBy hb) (by simp) (by simp)
end
end Go.Proofs.YtpfighhhemnhaaaGreat

namespace Go.Proofs.YtpfighhhemnhaaaGreat
open Go.ChangeShapes Go.WideShapes Go.ChangeAt Go.RowKit
section
variable {H : Type} {enc : TypeId × Value → H}

theorem trodAll_below {P : Program} (hl : laidOutB P = true) {W W' : World} (hb : Below W.heap.size W W') :
    ∀ {ts : List TypeId} {vs : List Value} {ds : List (DataW H)} {ps : List MemPlace}, (∀ t ∈ ts, P.readableRec t = true ∧ t < P.types.size) →
      DataW.TrodAll enc P W 0 (fun _ => true) true ts vs ds ps → (∀ x ∈ ps, x.block < W.heap.size) →
      DataW.TrodAll enc P W' 0 (fun b => decide (b < W.heap.size)) true ts vs ds ps
  | [], [], [], _, _, h, _ => h
  | t :: ts, v :: vs, d :: ds, ps, hr, h, hlt => by
    obtain ⟨p, q, h1, h2, rfl⟩ := h
    have hrt := hr t (by simp)
    exact ⟨p, q, Below.trod hl hrt.1 hrt.2 h1 hb (fun x hx => hlt x (by simp [hx])),
      trodAll_below hl hb (fun t ht => hr t (by simp [ht])) h2 (fun x hx => hlt x (by simp [hx])), rfl⟩
  | [], [], _ :: _, _, _, h, _ => h.elim
  | [], _ :: _, _, _, _, h, _ => h.elim
  | _ :: _, [], _, _, _, h, _ => h.elim
  | _ :: _, _ :: _, [], _, _, h, _ => h.elim

theorem trodAll_length {P : Program} {w : World} {base : Nat} {sp : Nat → Bool} {hd : Bool} : ∀ {ts : List TypeId} {vs : List Value} {ds : List (DataW H)} {ps : List MemPlace},
    DataW.TrodAll enc P w base sp hd ts vs ds ps → vs.length = ts.length ∧ ds.length = ts.length
  | [], [], [], _, _ => ⟨rfl, rfl⟩
  | _ :: ts, _ :: vs, _ :: ds, _, h => by
    obtain ⟨p, q, _, h2, _⟩ := h
    have := trodAll_length h2
    simp [this.1, this.2]
  | [], [], _ :: _, _, h => h.elim
  | [], _ :: _, _, _, h => h.elim
  | _ :: _, [], _, _, h => h.elim
  | _ :: _, _ :: _, [], _, h => h.elim

/-- A law that returns true and turns no old memory: its row's step, whatever the types of its arguments. -/
theorem law_lifted {C : Checked} {os : Os} {f : FuncId} {fn : Func} {s : ChangeSpec} {tb : TypeId} (own : ownKnob C.prog.godebug = none) (started : os.Started)
    (noInit : C.prog.inits.idxOf? f = none) (hfn : C.prog.funcs[f]? = some fn) (hvars : s.vars = [])
    (hs : ∀ (ds : List (DataW H)), ds.length = fn.params.size → (s.fn H ds).results = [.lit (.bool true)] ∧ (s.fn H ds).args = ds ∧ (s.fn H ds).vars = [])
    (hres : fn.resultTypes = #[tb]) (htb : C.prog.underlying tb = some .bool) (hl : laidOutB C.prog = true)
    (hread : ∀ t ∈ fn.params.toList, C.prog.readableRec t = true ∧ t < C.prog.types.size)
    (witness : ∃ (w : World) (tape : Tape) (i : Input), w.os = os ∧ (w.forCall tape i).Shaped C.prog ∧ i.vars = [] ∧ Input.okWide C.prog (w.forCall tape i) .any w.heap.size f i ∧
      s.pre6 enc C.prog fn [] false (w.forCall tape i).memory i.args ∧ ({} : Assume).holds C.prog (lone (Frame.enter C.prog f i.args .normal) [] (w.forCall tape i)))
    (walk : ∀ (W : World) (base : Nat) (args : Array Value) (ds : List (DataW H)) (p : List MemPlace),
      (∀ (j : Nat) t v, fn.params[j]? = some t → args[j]? = some v → Value.okWide C.prog W .any base t v) →
      DataW.TrodAll enc C.prog W 0 (fun _ => true) true fn.params.toList args.toList ds p →
      (∀ x ∈ p, x.block < W.heap.size) →
      (DataW.weightsEach C.prog fn.params.toList ds).all (· ≤ reachBytes) = true →
      Calls C.prog f args W fun e W' => e = .returned (.bool true) ∧ Below W.heap.size W W') :
    ReturnsInHanded {} C os f .any (s.pre6 enc C.prog fn [] false) (s.post enc C.prog fn false true false false) := by
  refine returnsInHanded_of_change_sized own started noInit hfn witness ?_
  intro W base args ds gs before hval hW _ hsz _
  have hW' := hW
  obtain ⟨p, q, hA, hV, rfl, hfz, hnd⟩ := hW
  rw [hvars] at hV
  obtain ⟨rfl, rfl⟩ : gs = [] ∧ q = [] := by
    cases gs with
    | nil => exact ⟨rfl, hV⟩
    | cons g gs => exact hV.elim
  have hvt : s.plain.varTypes C.prog = [] := by simp [DataSpec.varTypes, ChangeSpec.plain, hvars]
  rw [hvt] at hsz
  simp only [List.append_nil] at hsz hW'
  have hlt : ∀ x ∈ p, x.block < W.heap.size := fun x hx => by simpa using hW'.lt x hx
  refine (walk W base args ds p hval hA hlt hsz).mono fun e W' ⟨he, hb⟩ => ?_
  subst he
  have hlen : ds.length = fn.params.size := by have := (trodAll_length hA).2; simpa using this
  obtain ⟨h1, h2, h3⟩ := hs ds hlen
  refine ⟨_, rfl, ds, [], p, [], p, [], hW', ?_, ?_, ?_, hb.frame _, fun h => by cases h⟩
  · rw [List.append_nil, h1, hres]
    exact trodAll_cons_mk (shut_bool htb _) trodAll_mk0
  · rw [List.append_nil, h2]
    exact trodAll_below hl hb hread hA hlt
  · rw [List.append_nil, h3, hvars]
    rfl
end
end Go.Proofs.YtpfighhhemnhaaaGreat
namespace Go.Proofs.YtpfighhhemnhaaaGreat
open Go.ChangeShapes Go.WideShapes Go.ChangeAt Go.RowKit

theorem lawOwn : ownKnob Tryz.prog.godebug = none := by kernel_rfl
theorem lawCells : ∀ {n : Nat} {cs : List Value}, fitsW (List.replicate n (some .i64)) cs → ∃ zs : List Int, zs.length = n ∧ cs = zs.map (Value.int .i64)
  | 0, cs, h => ⟨[], rfl, fits_nil h⟩
  | n + 1, cs, h => by
    obtain ⟨z, vs, rfl, _, h2⟩ := fits_int (show fitsW (some .i64 :: List.replicate n (some .i64)) cs from h)
    obtain ⟨zs, hl, rfl⟩ := lawCells h2
    exact ⟨z :: zs, by simp [hl], rfl⟩
end Go.Proofs.YtpfighhhemnhaaaGreat


