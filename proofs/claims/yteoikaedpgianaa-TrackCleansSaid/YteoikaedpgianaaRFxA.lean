/- Fixes as a list; the program's order 118 and its sort 117; Clone 116. (Printed by wip/gen_fxa.py.) -/
import Derived.Test.YteoikaedpgianaaRRowB
import Derived.Test.YteoikaedpgianaaRValid
import Derived.Test.YteoikaedpgianaaRTrack
import Derived.Test.YteoikaedpgianaaRRefuse
import Derived.Test.YteoikaedpgianaaRXNear
import Derived.Test.YteoikaedpgianaaRRNear
namespace Go.Proofs.Yteoikaedpgianaa
open Go.RowKit Go.Sort Go.Lib Go.Shelf Go.Proofs

section
variable {P : Program} {O : Array Oper} {Q : Exit → Act → World → Prop} {a : Act} {w : World}
theorem op_then {o : Oper} {K K0 : Act → World → Prop} (hh : o.wp P a w K (Exit.then K0 Q)) : o.wp P a w K Q := by
  unfold Oper.wp at *
  generalize (execOp a.eval o).run P w = r at *
  cases r with
  | ok n w' =>
    cases n <;> simp only [Oper.upon] at hh ⊢ <;>
      first
        | exact hh
        | exact Calls.mono hh (fun e w'' he => by cases e <;> exact he)
        | exact Rows.mono hh (fun _ _ he => he)
  | halt x w' => cases x <;> simp only [Oper.upon] at hh ⊢ <;> exact hh
theorem wpList_app : ∀ (l1 l2 : List Oper) (a : Act) (w : World), wpList P O (Exit.then (wpList P O Q l2) Q) l1 a w → wpList P O Q (l1 ++ l2) a w
  | [], _, _, _, h => h
  | o :: r, l2, a, w, h => by
    show wpList P O Q (o :: (r ++ l2)) a w
    unfold wpList at h ⊢
    split
    · rename_i hw
      rw [if_pos hw] at h
      rcases h with h | ⟨h1, h2⟩
      · exact .inl (op_then (Oper.wp_mono (fun a w hk => wpList_app r l2 a w hk) h))
      · exact .inr ⟨h1, h2⟩
    · rename_i hw
      rw [if_neg hw] at h
      exact wpList_app r l2 _ _ h
/-- a great region that does not draw, n operations at a time -/
theorem region_parts {id : Nat} {l : List Oper} (h : ∀ O : Array Oper, wpList P O Q l a w) : (Code.region id l.toArray false).wp P Q a w := wp_region_lit (h _)
theorem wpList_parts {l : List Oper} (n : Nat) (h : ∀ K : Act → World → Prop, (∀ a w, wpList P O Q (l.drop n) a w → K a w) → wpList P O (Exit.then K Q) (l.take n) a w) : wpList P O Q l a w := by
  have := wpList_app (O := O) (Q := Q) (l.take n) (l.drop n) a w (h _ (fun _ _ h => h))
  rwa [List.take_append_drop] at this
end
structure Fx where
  t : Int
  x : Int
  y : Int
  z : Int
  e : Int
  a : Int
  b : Int
  c : Int
  d : Int
  g : Int
deriving DecidableEq
instance : Inhabited Fx := ⟨⟨0, 0, 0, 0, 0, 0, 0, 0, 0, 0⟩⟩
def Fx.row (p : Fx) : List Value := [.int .i64 p.t, .int .i64 p.x, .int .i64 p.y, .int .i64 p.z, .int .i64 p.e, .int .i64 p.a, .int .i64 p.b, .int .i64 p.c, .int .i64 p.d, .int .i64 p.g]
def Fx.f (p : Fx) (j : Nat) : Int := [p.t, p.x, p.y, p.z, p.e, p.a, p.b, p.c, p.d, p.g].getD j 0
theorem Fx.row_len (p : Fx) : p.row.length = 10 := rfl
theorem Fx.row_one (p : Fx) : ∀ v ∈ p.row, v.oneCell' = true := fun v hv => by
  simp [Fx.row] at hv
  rcases hv with rfl | rfl | rfl | rfl | rfl | rfl | rfl | rfl | rfl | rfl <;> rfl
theorem Fx.row_at (p : Fx) (j : Nat) (hj : j < 10) : p.row[j]? = some (.int .i64 (p.f j)) := by
  match j, hj with
  | 0, _ | 1, _ | 2, _ | 3, _ | 4, _ | 5, _ | 6, _ | 7, _ | 8, _ | 9, _ => rfl
/-- a fix that is one -/
def Fx.ok (p : Fx) : Bool := fixB p.t p.x p.y p.z p.e p.a p.b p.c p.d p.g
def Fx.fine (p : Fx) : Prop := (0 ≤ p.t ∧ p.t ≤ 1125899906842624) ∧ (-1000000000 ≤ p.x ∧ p.x ≤ 1000000000) ∧ (-1000000000 ≤ p.y ∧ p.y ≤ 1000000000) ∧ (-1000000000 ≤ p.z ∧ p.z ≤ 1000000000) ∧ (-1000000000 ≤ p.e ∧ p.e ≤ 1000000000) ∧ (-1000000000 ≤ p.a ∧ p.a ≤ 1000000000) ∧ (-1000000000 ≤ p.b ∧ p.b ≤ 1000000000) ∧ (-1000000000 ≤ p.c ∧ p.c ≤ 1000000000) ∧ (-1000000000 ≤ p.d ∧ p.d ≤ 1000000000) ∧ (-1000000000 ≤ p.g ∧ p.g ≤ 1000000000)
theorem inB_iff {lo hi z : Int} : inB lo hi z = true ↔ lo ≤ z ∧ z ≤ hi := by simp [inB]
/-- the comparison of fixes -/
def cmpF (p q : Fx) : Int := if p.t = q.t then (if p.x = q.x then (if p.y = q.y then (if p.z = q.z then (if p.e = q.e then (if p.a = q.a then (if p.b = q.b then (if p.c = q.c then (if p.d = q.d then (if p.g = q.g then (0) else p.g - q.g) else p.d - q.d) else p.c - q.c) else p.b - q.b) else p.a - q.a) else p.e - q.e) else p.z - q.z) else p.y - q.y) else p.x - q.x) else p.t - q.t
theorem cmpF_at {p q : Fx} (i : Nat) (hi : i < 10) (h : ∀ j, j < i → p.f j = q.f j) (hn : p.f i ≠ q.f i) : cmpF p q = p.f i - q.f i := by
  obtain ⟨a0, a1, a2, a3, a4, a5, a6, a7, a8, a9⟩ := p
  obtain ⟨b0, b1, b2, b3, b4, b5, b6, b7, b8, b9⟩ := q
  match i, hi with
  | 0, _ =>
    have hk : a0 ≠ b0 := hn
    show cmpF _ _ = a0 - b0
    simp [cmpF, hk]
  | 1, _ =>
    obtain rfl : a0 = b0 := h 0 (by decide)
    have hk : a1 ≠ b1 := hn
    show cmpF _ _ = a1 - b1
    simp [cmpF, hk]
  | 2, _ =>
    obtain rfl : a0 = b0 := h 0 (by decide)
    obtain rfl : a1 = b1 := h 1 (by decide)
    have hk : a2 ≠ b2 := hn
    show cmpF _ _ = a2 - b2
    simp [cmpF, hk]
  | 3, _ =>
    obtain rfl : a0 = b0 := h 0 (by decide)
    obtain rfl : a1 = b1 := h 1 (by decide)
    obtain rfl : a2 = b2 := h 2 (by decide)
    have hk : a3 ≠ b3 := hn
    show cmpF _ _ = a3 - b3
    simp [cmpF, hk]
  | 4, _ =>
    obtain rfl : a0 = b0 := h 0 (by decide)
    obtain rfl : a1 = b1 := h 1 (by decide)
    obtain rfl : a2 = b2 := h 2 (by decide)
    obtain rfl : a3 = b3 := h 3 (by decide)
    have hk : a4 ≠ b4 := hn
    show cmpF _ _ = a4 - b4
    simp [cmpF, hk]
  | 5, _ =>
    obtain rfl : a0 = b0 := h 0 (by decide)
    obtain rfl : a1 = b1 := h 1 (by decide)
    obtain rfl : a2 = b2 := h 2 (by decide)
    obtain rfl : a3 = b3 := h 3 (by decide)
    obtain rfl : a4 = b4 := h 4 (by decide)
    have hk : a5 ≠ b5 := hn
    show cmpF _ _ = a5 - b5
    simp [cmpF, hk]
  | 6, _ =>
    obtain rfl : a0 = b0 := h 0 (by decide)
    obtain rfl : a1 = b1 := h 1 (by decide)
    obtain rfl : a2 = b2 := h 2 (by decide)
    obtain rfl : a3 = b3 := h 3 (by decide)
    obtain rfl : a4 = b4 := h 4 (by decide)
    obtain rfl : a5 = b5 := h 5 (by decide)
    have hk : a6 ≠ b6 := hn
    show cmpF _ _ = a6 - b6
    simp [cmpF, hk]
  | 7, _ =>
    obtain rfl : a0 = b0 := h 0 (by decide)
    obtain rfl : a1 = b1 := h 1 (by decide)
    obtain rfl : a2 = b2 := h 2 (by decide)
    obtain rfl : a3 = b3 := h 3 (by decide)
    obtain rfl : a4 = b4 := h 4 (by decide)
    obtain rfl : a5 = b5 := h 5 (by decide)
    obtain rfl : a6 = b6 := h 6 (by decide)
    have hk : a7 ≠ b7 := hn
    show cmpF _ _ = a7 - b7
    simp [cmpF, hk]
  | 8, _ =>
    obtain rfl : a0 = b0 := h 0 (by decide)
    obtain rfl : a1 = b1 := h 1 (by decide)
    obtain rfl : a2 = b2 := h 2 (by decide)
    obtain rfl : a3 = b3 := h 3 (by decide)
    obtain rfl : a4 = b4 := h 4 (by decide)
    obtain rfl : a5 = b5 := h 5 (by decide)
    obtain rfl : a6 = b6 := h 6 (by decide)
    obtain rfl : a7 = b7 := h 7 (by decide)
    have hk : a8 ≠ b8 := hn
    show cmpF _ _ = a8 - b8
    simp [cmpF, hk]
  | 9, _ =>
    obtain rfl : a0 = b0 := h 0 (by decide)
    obtain rfl : a1 = b1 := h 1 (by decide)
    obtain rfl : a2 = b2 := h 2 (by decide)
    obtain rfl : a3 = b3 := h 3 (by decide)
    obtain rfl : a4 = b4 := h 4 (by decide)
    obtain rfl : a5 = b5 := h 5 (by decide)
    obtain rfl : a6 = b6 := h 6 (by decide)
    obtain rfl : a7 = b7 := h 7 (by decide)
    obtain rfl : a8 = b8 := h 8 (by decide)
    have hk : a9 ≠ b9 := hn
    show cmpF _ _ = a9 - b9
    simp [cmpF, hk]
theorem cmpF_same {p q : Fx} (h : ∀ j, j < 10 → p.f j = q.f j) : cmpF p q = 0 := by
  obtain ⟨a0, a1, a2, a3, a4, a5, a6, a7, a8, a9⟩ := p
  obtain ⟨b0, b1, b2, b3, b4, b5, b6, b7, b8, b9⟩ := q
  obtain rfl : a0 = b0 := h 0 (by decide)
  obtain rfl : a1 = b1 := h 1 (by decide)
  obtain rfl : a2 = b2 := h 2 (by decide)
  obtain rfl : a3 = b3 := h 3 (by decide)
  obtain rfl : a4 = b4 := h 4 (by decide)
  obtain rfl : a5 = b5 := h 5 (by decide)
  obtain rfl : a6 = b6 := h 6 (by decide)
  obtain rfl : a7 = b7 := h 7 (by decide)
  obtain rfl : a8 = b8 := h 8 (by decide)
  obtain rfl : a9 = b9 := h 9 (by decide)
  simp [cmpF]
theorem all_more {p q : Fx} (i : Nat) (h : ∀ j, j < i → p.f j = q.f j) (he : p.f i = q.f i) : ∀ j, j < i + 1 → p.f j = q.f j := fun j hj => by
  rcases Nat.lt_or_ge j i with h1 | h1
  · exact h j h1
  · obtain rfl : j = i := by omega
    exact he
theorem size204 : (Try.prog.info? 204).map (·.size) = some 20 := by kernel_rfl
theorem idxF0 (a0 b0 a1 b1 a2 b2 a3 b3 a4 b4 a5 b5 a6 b6 a7 b7 a8 b8 a9 b9 : Int) (w : World) : (Instr.index 204 (.agg #[.int .i64 a0, .int .i64 b0, .int .i64 a1, .int .i64 b1, .int .i64 a2, .int .i64 b2, .int .i64 a3, .int .i64 b3, .int .i64 a4, .int .i64 b4, .int .i64 a5, .int .i64 b5, .int .i64 a6, .int .i64 b6, .int .i64 a7, .int .i64 b7, .int .i64 a8, .int .i64 b8, .int .i64 a9, .int .i64 b9]) (.int .i64 0)).run Try.prog w = .ok (.agg #[.int .i64 a0, .int .i64 b0]) w := by kernel_rfl
theorem idxF1 (a0 b0 a1 b1 a2 b2 a3 b3 a4 b4 a5 b5 a6 b6 a7 b7 a8 b8 a9 b9 : Int) (w : World) : (Instr.index 204 (.agg #[.int .i64 a0, .int .i64 b0, .int .i64 a1, .int .i64 b1, .int .i64 a2, .int .i64 b2, .int .i64 a3, .int .i64 b3, .int .i64 a4, .int .i64 b4, .int .i64 a5, .int .i64 b5, .int .i64 a6, .int .i64 b6, .int .i64 a7, .int .i64 b7, .int .i64 a8, .int .i64 b8, .int .i64 a9, .int .i64 b9]) (.int .i64 1)).run Try.prog w = .ok (.agg #[.int .i64 a1, .int .i64 b1]) w := by kernel_rfl
theorem idxF2 (a0 b0 a1 b1 a2 b2 a3 b3 a4 b4 a5 b5 a6 b6 a7 b7 a8 b8 a9 b9 : Int) (w : World) : (Instr.index 204 (.agg #[.int .i64 a0, .int .i64 b0, .int .i64 a1, .int .i64 b1, .int .i64 a2, .int .i64 b2, .int .i64 a3, .int .i64 b3, .int .i64 a4, .int .i64 b4, .int .i64 a5, .int .i64 b5, .int .i64 a6, .int .i64 b6, .int .i64 a7, .int .i64 b7, .int .i64 a8, .int .i64 b8, .int .i64 a9, .int .i64 b9]) (.int .i64 2)).run Try.prog w = .ok (.agg #[.int .i64 a2, .int .i64 b2]) w := by kernel_rfl
theorem idxF3 (a0 b0 a1 b1 a2 b2 a3 b3 a4 b4 a5 b5 a6 b6 a7 b7 a8 b8 a9 b9 : Int) (w : World) : (Instr.index 204 (.agg #[.int .i64 a0, .int .i64 b0, .int .i64 a1, .int .i64 b1, .int .i64 a2, .int .i64 b2, .int .i64 a3, .int .i64 b3, .int .i64 a4, .int .i64 b4, .int .i64 a5, .int .i64 b5, .int .i64 a6, .int .i64 b6, .int .i64 a7, .int .i64 b7, .int .i64 a8, .int .i64 b8, .int .i64 a9, .int .i64 b9]) (.int .i64 3)).run Try.prog w = .ok (.agg #[.int .i64 a3, .int .i64 b3]) w := by kernel_rfl
theorem idxF4 (a0 b0 a1 b1 a2 b2 a3 b3 a4 b4 a5 b5 a6 b6 a7 b7 a8 b8 a9 b9 : Int) (w : World) : (Instr.index 204 (.agg #[.int .i64 a0, .int .i64 b0, .int .i64 a1, .int .i64 b1, .int .i64 a2, .int .i64 b2, .int .i64 a3, .int .i64 b3, .int .i64 a4, .int .i64 b4, .int .i64 a5, .int .i64 b5, .int .i64 a6, .int .i64 b6, .int .i64 a7, .int .i64 b7, .int .i64 a8, .int .i64 b8, .int .i64 a9, .int .i64 b9]) (.int .i64 4)).run Try.prog w = .ok (.agg #[.int .i64 a4, .int .i64 b4]) w := by kernel_rfl
theorem idxF5 (a0 b0 a1 b1 a2 b2 a3 b3 a4 b4 a5 b5 a6 b6 a7 b7 a8 b8 a9 b9 : Int) (w : World) : (Instr.index 204 (.agg #[.int .i64 a0, .int .i64 b0, .int .i64 a1, .int .i64 b1, .int .i64 a2, .int .i64 b2, .int .i64 a3, .int .i64 b3, .int .i64 a4, .int .i64 b4, .int .i64 a5, .int .i64 b5, .int .i64 a6, .int .i64 b6, .int .i64 a7, .int .i64 b7, .int .i64 a8, .int .i64 b8, .int .i64 a9, .int .i64 b9]) (.int .i64 5)).run Try.prog w = .ok (.agg #[.int .i64 a5, .int .i64 b5]) w := by kernel_rfl
theorem idxF6 (a0 b0 a1 b1 a2 b2 a3 b3 a4 b4 a5 b5 a6 b6 a7 b7 a8 b8 a9 b9 : Int) (w : World) : (Instr.index 204 (.agg #[.int .i64 a0, .int .i64 b0, .int .i64 a1, .int .i64 b1, .int .i64 a2, .int .i64 b2, .int .i64 a3, .int .i64 b3, .int .i64 a4, .int .i64 b4, .int .i64 a5, .int .i64 b5, .int .i64 a6, .int .i64 b6, .int .i64 a7, .int .i64 b7, .int .i64 a8, .int .i64 b8, .int .i64 a9, .int .i64 b9]) (.int .i64 6)).run Try.prog w = .ok (.agg #[.int .i64 a6, .int .i64 b6]) w := by kernel_rfl
theorem idxF7 (a0 b0 a1 b1 a2 b2 a3 b3 a4 b4 a5 b5 a6 b6 a7 b7 a8 b8 a9 b9 : Int) (w : World) : (Instr.index 204 (.agg #[.int .i64 a0, .int .i64 b0, .int .i64 a1, .int .i64 b1, .int .i64 a2, .int .i64 b2, .int .i64 a3, .int .i64 b3, .int .i64 a4, .int .i64 b4, .int .i64 a5, .int .i64 b5, .int .i64 a6, .int .i64 b6, .int .i64 a7, .int .i64 b7, .int .i64 a8, .int .i64 b8, .int .i64 a9, .int .i64 b9]) (.int .i64 7)).run Try.prog w = .ok (.agg #[.int .i64 a7, .int .i64 b7]) w := by kernel_rfl
theorem idxF8 (a0 b0 a1 b1 a2 b2 a3 b3 a4 b4 a5 b5 a6 b6 a7 b7 a8 b8 a9 b9 : Int) (w : World) : (Instr.index 204 (.agg #[.int .i64 a0, .int .i64 b0, .int .i64 a1, .int .i64 b1, .int .i64 a2, .int .i64 b2, .int .i64 a3, .int .i64 b3, .int .i64 a4, .int .i64 b4, .int .i64 a5, .int .i64 b5, .int .i64 a6, .int .i64 b6, .int .i64 a7, .int .i64 b7, .int .i64 a8, .int .i64 b8, .int .i64 a9, .int .i64 b9]) (.int .i64 8)).run Try.prog w = .ok (.agg #[.int .i64 a8, .int .i64 b8]) w := by kernel_rfl
theorem idxF9 (a0 b0 a1 b1 a2 b2 a3 b3 a4 b4 a5 b5 a6 b6 a7 b7 a8 b8 a9 b9 : Int) (w : World) : (Instr.index 204 (.agg #[.int .i64 a0, .int .i64 b0, .int .i64 a1, .int .i64 b1, .int .i64 a2, .int .i64 b2, .int .i64 a3, .int .i64 b3, .int .i64 a4, .int .i64 b4, .int .i64 a5, .int .i64 b5, .int .i64 a6, .int .i64 b6, .int .i64 a7, .int .i64 b7, .int .i64 a8, .int .i64 b8, .int .i64 a9, .int .i64 b9]) (.int .i64 9)).run Try.prog w = .ok (.agg #[.int .i64 a9, .int .i64 b9]) w := by kernel_rfl
set_option maxRecDepth 100000 in
set_option maxHeartbeats 3200000 in
theorem order_any (p q : Fx) (hp : p.fine) (hq : q.fine) (W : World) : Calls Try.prog 118 #[.agg p.row.toArray, .agg q.row.toArray] W fun e w' => e = .returned (.int .i64 (cmpF p q)) ∧ Grew W w' := by
  obtain ⟨a0, a1, a2, a3, a4, a5, a6, a7, a8, a9⟩ := p
  obtain ⟨b0, b1, b2, b3, b4, b5, b6, b7, b8, b9⟩ := q
  simp only [Fx.fine] at hp hq
  simp only [Fx.row]
  obtain ⟨hpt, hpx, hpy, hpz, hpe, hpa, hpb, hpc, hpd, hpg⟩ := hp
  obtain ⟨hqt, hqx, hqy, hqz, hqe, hqa, hqb, hqc, hqd, hqg⟩ := hq
  have hi0 := idxF0
  have hi1 := idxF1
  have hi2 := idxF2
  have hi3 := idxF3
  have hi4 := idxF4
  have hi5 := idxF5
  have hi6 := idxF6
  have hi7 := idxF7
  have hi8 := idxF8
  have hi9 := idxF9
  go_enter Try.func118, Try.ntmps118
  go_upto_region 1 with fail
  refine gen_world (fun W1 hW1 => ?_)
  have HG := hid (show Grew W W1 by rw [hW1]; exact (by repeat' (first | exact Grew.refl _ | refine Grew.alloc ?_ _ | refine Grew.drewN ?_ _)))
  have KA := hid (show W1.heap[W.heap.size]? = some (.cells #[.int .i64 a0, .int .i64 a1, .int .i64 a2, .int .i64 a3, .int .i64 a4, .int .i64 a5, .int .i64 a6, .int .i64 a7, .int .i64 a8, .int .i64 a9] 55) by rw [hW1]; exact (by repeat' (first | (refine heap_alloc_at _ _ _ ?_; (first | rfl | (simp; done) | (simp; omega))) | (refine heap_alloc_past _ _ _ _ ?_))))
  have KB := hid (show W1.heap[W.heap.size + 1]? = some (.cells #[.int .i64 b0, .int .i64 b1, .int .i64 b2, .int .i64 b3, .int .i64 b4, .int .i64 b5, .int .i64 b6, .int .i64 b7, .int .i64 b8, .int .i64 b9] 55) by rw [hW1]; exact (by repeat' (first | (refine heap_alloc_at _ _ _ ?_; (first | rfl | (simp; done) | (simp; omega))) | (refine heap_alloc_past _ _ _ _ ?_))))
  clear hW1
  have x0 : W1.cell? ⟨W.heap.size, 0, none⟩ = some (.int .i64 a0) := (cell_row (j := 0) KA.out).trans rfl
  have y0 : W1.cell? ⟨W.heap.size + 1, 0, none⟩ = some (.int .i64 b0) := (cell_row (j := 0) KB.out).trans rfl
  have x1 : W1.cell? ⟨W.heap.size, 1, none⟩ = some (.int .i64 a1) := (cell_row (j := 1) KA.out).trans rfl
  have y1 : W1.cell? ⟨W.heap.size + 1, 1, none⟩ = some (.int .i64 b1) := (cell_row (j := 1) KB.out).trans rfl
  have x2 : W1.cell? ⟨W.heap.size, 2, none⟩ = some (.int .i64 a2) := (cell_row (j := 2) KA.out).trans rfl
  have y2 : W1.cell? ⟨W.heap.size + 1, 2, none⟩ = some (.int .i64 b2) := (cell_row (j := 2) KB.out).trans rfl
  have x3 : W1.cell? ⟨W.heap.size, 3, none⟩ = some (.int .i64 a3) := (cell_row (j := 3) KA.out).trans rfl
  have y3 : W1.cell? ⟨W.heap.size + 1, 3, none⟩ = some (.int .i64 b3) := (cell_row (j := 3) KB.out).trans rfl
  have x4 : W1.cell? ⟨W.heap.size, 4, none⟩ = some (.int .i64 a4) := (cell_row (j := 4) KA.out).trans rfl
  have y4 : W1.cell? ⟨W.heap.size + 1, 4, none⟩ = some (.int .i64 b4) := (cell_row (j := 4) KB.out).trans rfl
  have x5 : W1.cell? ⟨W.heap.size, 5, none⟩ = some (.int .i64 a5) := (cell_row (j := 5) KA.out).trans rfl
  have y5 : W1.cell? ⟨W.heap.size + 1, 5, none⟩ = some (.int .i64 b5) := (cell_row (j := 5) KB.out).trans rfl
  have x6 : W1.cell? ⟨W.heap.size, 6, none⟩ = some (.int .i64 a6) := (cell_row (j := 6) KA.out).trans rfl
  have y6 : W1.cell? ⟨W.heap.size + 1, 6, none⟩ = some (.int .i64 b6) := (cell_row (j := 6) KB.out).trans rfl
  have x7 : W1.cell? ⟨W.heap.size, 7, none⟩ = some (.int .i64 a7) := (cell_row (j := 7) KA.out).trans rfl
  have y7 : W1.cell? ⟨W.heap.size + 1, 7, none⟩ = some (.int .i64 b7) := (cell_row (j := 7) KB.out).trans rfl
  have x8 : W1.cell? ⟨W.heap.size, 8, none⟩ = some (.int .i64 a8) := (cell_row (j := 8) KA.out).trans rfl
  have y8 : W1.cell? ⟨W.heap.size + 1, 8, none⟩ = some (.int .i64 b8) := (cell_row (j := 8) KB.out).trans rfl
  have x9 : W1.cell? ⟨W.heap.size, 9, none⟩ = some (.int .i64 a9) := (cell_row (j := 9) KA.out).trans rfl
  have y9 : W1.cell? ⟨W.heap.size + 1, 9, none⟩ = some (.int .i64 b9) := (cell_row (j := 9) KB.out).trans rfl
  refine region_parts (fun O => ?_)
  refine wpList_parts 10 ?_
  intro K0 hK0
  simp only [List.append, List.take_succ_cons, List.take_zero, List.drop_succ_cons, List.drop_zero] at hK0 ⊢
  have HK0 := hid hK0
  clear hK0
  go_wp2_with fail
  refine HK0.out _ _ ?_
  clear HK0
  refine wpList_parts 10 ?_
  intro K1 hK1
  simp only [List.take_succ_cons, List.take_zero, List.drop_succ_cons, List.drop_zero] at hK1 ⊢
  have HK1 := hid hK1
  clear hK1
  go_wp2_with fail
  refine HK1.out _ _ ?_
  clear HK1
  refine wpList_parts 10 ?_
  intro K2 hK2
  simp only [List.take_succ_cons, List.take_zero, List.drop_succ_cons, List.drop_zero] at hK2 ⊢
  have HK2 := hid hK2
  clear hK2
  go_wp2_with fail
  refine HK2.out _ _ ?_
  clear HK2
  refine wpList_parts 10 ?_
  intro K3 hK3
  simp only [List.take_succ_cons, List.take_zero, List.drop_succ_cons, List.drop_zero] at hK3 ⊢
  have HK3 := hid hK3
  clear hK3
  go_wp2_with fail
  refine HK3.out _ _ ?_
  clear HK3
  refine wpList_parts 10 ?_
  intro K4 hK4
  simp only [List.take_succ_cons, List.take_zero, List.drop_succ_cons, List.drop_zero] at hK4 ⊢
  have HK4 := hid hK4
  clear hK4
  go_wp2_with fail
  refine HK4.out _ _ ?_
  clear HK4
  refine wpList_parts 10 ?_
  intro K5 hK5
  simp only [List.take_succ_cons, List.take_zero, List.drop_succ_cons, List.drop_zero] at hK5 ⊢
  have HK5 := hid hK5
  clear hK5
  go_wp2_with fail
  refine HK5.out _ _ ?_
  clear HK5
  go_wp2_with (first | (refine wpList_store_new rfl 204 (.tmp 5) (.tmp 72) rfl rfl rfl rfl size204 rfl rfl rfl ?_) | (refine wpList_load_at rfl 204 (.tmp 5) rfl rfl (heap_alloc_at _ _ _ rfl) Try.underlying204 rfl size204 rfl ?_))
  refine gen_world (fun W2 hW2 => ?_)
  have HG2 := hid (show Grew W W2 by rw [hW2]; exact HG.out.alloc _)
  clear hW2 x0 x1 x2 x3 x4 x5 x6 x7 x8 x9 y0 y1 y2 y3 y4 y5 y6 y7 y8 y9
  go_loopw [74] (fun iv wr => ∃ i : Nat, i ≤ 10 ∧ iv = .int .i64 (i : Int) ∧ (∀ j, j < i → Fx.f ⟨a0, a1, a2, a3, a4, a5, a6, a7, a8, a9⟩ j = Fx.f ⟨b0, b1, b2, b3, b4, b5, b6, b7, b8, b9⟩ j) ∧ Grew W wr) (fun iv _ => 10 - (intOf iv).toNat)
  case atStart => exact ⟨0, by omega, rfl, fun j hj => absurd hj (Nat.not_lt_zero _), HG2.out⟩
  case round =>
    obtain ⟨i, hi, rfl, hall, hgr⟩ := hrel
    have HGR := hid hgr
    have HALL := hid hall
    clear hgr hall HG2 HG KA KB
    by_cases hlt : i < 10
    · have e3 : decide ((i : Int) < 10) = true := decide_eq_true (by omega)
      match i, hlt with
      | 0, _ =>
        have HX := hid (cmpF_at (p := ⟨a0, a1, a2, a3, a4, a5, a6, a7, a8, a9⟩) (q := ⟨b0, b1, b2, b3, b4, b5, b6, b7, b8, b9⟩) 0 (by decide) HALL.out)
        have HS := hid (fun h : a0 = b0 => all_more (p := ⟨a0, a1, a2, a3, a4, a5, a6, a7, a8, a9⟩) (q := ⟨b0, b1, b2, b3, b4, b5, b6, b7, b8, b9⟩) 0 HALL.out h)
        by_cases he : a0 = b0
        · have d1 : (a0 != b0) = false := by simpa using he
          have HE := hid he
          clear he
          go_wp2_with fail
          first
          | exact ⟨⟨0 + 1, by decide, rfl, HS.out HE.out, (by repeat' (first | exact HGR.out | refine Grew.alloc ?_ _ | refine Grew.drewN ?_ _))⟩, by simp [intOf]⟩
          | (go_roundw
             case rel => exact ⟨0 + 1, by decide, rfl, HS.out HE.out, (by repeat' (first | exact HGR.out | refine Grew.alloc ?_ _ | refine Grew.drewN ?_ _))⟩
             case measure => simp [intOf])
        · have d1 : (a0 != b0) = true := by simpa using he
          have HE := hid he
          clear he
          go_wp2_with fail
          go_ret
          exact ⟨by rw [HX.out HE.out]; rfl, (by repeat' (first | exact HGR.out | refine Grew.alloc ?_ _ | refine Grew.drewN ?_ _))⟩
      | 1, _ =>
        have HX := hid (cmpF_at (p := ⟨a0, a1, a2, a3, a4, a5, a6, a7, a8, a9⟩) (q := ⟨b0, b1, b2, b3, b4, b5, b6, b7, b8, b9⟩) 1 (by decide) HALL.out)
        have HS := hid (fun h : a1 = b1 => all_more (p := ⟨a0, a1, a2, a3, a4, a5, a6, a7, a8, a9⟩) (q := ⟨b0, b1, b2, b3, b4, b5, b6, b7, b8, b9⟩) 1 HALL.out h)
        by_cases he : a1 = b1
        · have d1 : (a1 != b1) = false := by simpa using he
          have HE := hid he
          clear he
          go_wp2_with fail
          first
          | exact ⟨⟨1 + 1, by decide, rfl, HS.out HE.out, (by repeat' (first | exact HGR.out | refine Grew.alloc ?_ _ | refine Grew.drewN ?_ _))⟩, by simp [intOf]⟩
          | (go_roundw
             case rel => exact ⟨1 + 1, by decide, rfl, HS.out HE.out, (by repeat' (first | exact HGR.out | refine Grew.alloc ?_ _ | refine Grew.drewN ?_ _))⟩
             case measure => simp [intOf])
        · have d1 : (a1 != b1) = true := by simpa using he
          have HE := hid he
          clear he
          go_wp2_with fail
          go_ret
          exact ⟨by rw [HX.out HE.out]; rfl, (by repeat' (first | exact HGR.out | refine Grew.alloc ?_ _ | refine Grew.drewN ?_ _))⟩
      | 2, _ =>
        have HX := hid (cmpF_at (p := ⟨a0, a1, a2, a3, a4, a5, a6, a7, a8, a9⟩) (q := ⟨b0, b1, b2, b3, b4, b5, b6, b7, b8, b9⟩) 2 (by decide) HALL.out)
        have HS := hid (fun h : a2 = b2 => all_more (p := ⟨a0, a1, a2, a3, a4, a5, a6, a7, a8, a9⟩) (q := ⟨b0, b1, b2, b3, b4, b5, b6, b7, b8, b9⟩) 2 HALL.out h)
        by_cases he : a2 = b2
        · have d1 : (a2 != b2) = false := by simpa using he
          have HE := hid he
          clear he
          go_wp2_with fail
          first
          | exact ⟨⟨2 + 1, by decide, rfl, HS.out HE.out, (by repeat' (first | exact HGR.out | refine Grew.alloc ?_ _ | refine Grew.drewN ?_ _))⟩, by simp [intOf]⟩
          | (go_roundw
             case rel => exact ⟨2 + 1, by decide, rfl, HS.out HE.out, (by repeat' (first | exact HGR.out | refine Grew.alloc ?_ _ | refine Grew.drewN ?_ _))⟩
             case measure => simp [intOf])
        · have d1 : (a2 != b2) = true := by simpa using he
          have HE := hid he
          clear he
          go_wp2_with fail
          go_ret
          exact ⟨by rw [HX.out HE.out]; rfl, (by repeat' (first | exact HGR.out | refine Grew.alloc ?_ _ | refine Grew.drewN ?_ _))⟩
      | 3, _ =>
        have HX := hid (cmpF_at (p := ⟨a0, a1, a2, a3, a4, a5, a6, a7, a8, a9⟩) (q := ⟨b0, b1, b2, b3, b4, b5, b6, b7, b8, b9⟩) 3 (by decide) HALL.out)
        have HS := hid (fun h : a3 = b3 => all_more (p := ⟨a0, a1, a2, a3, a4, a5, a6, a7, a8, a9⟩) (q := ⟨b0, b1, b2, b3, b4, b5, b6, b7, b8, b9⟩) 3 HALL.out h)
        by_cases he : a3 = b3
        · have d1 : (a3 != b3) = false := by simpa using he
          have HE := hid he
          clear he
          go_wp2_with fail
          first
          | exact ⟨⟨3 + 1, by decide, rfl, HS.out HE.out, (by repeat' (first | exact HGR.out | refine Grew.alloc ?_ _ | refine Grew.drewN ?_ _))⟩, by simp [intOf]⟩
          | (go_roundw
             case rel => exact ⟨3 + 1, by decide, rfl, HS.out HE.out, (by repeat' (first | exact HGR.out | refine Grew.alloc ?_ _ | refine Grew.drewN ?_ _))⟩
             case measure => simp [intOf])
        · have d1 : (a3 != b3) = true := by simpa using he
          have HE := hid he
          clear he
          go_wp2_with fail
          go_ret
          exact ⟨by rw [HX.out HE.out]; rfl, (by repeat' (first | exact HGR.out | refine Grew.alloc ?_ _ | refine Grew.drewN ?_ _))⟩
      | 4, _ =>
        have HX := hid (cmpF_at (p := ⟨a0, a1, a2, a3, a4, a5, a6, a7, a8, a9⟩) (q := ⟨b0, b1, b2, b3, b4, b5, b6, b7, b8, b9⟩) 4 (by decide) HALL.out)
        have HS := hid (fun h : a4 = b4 => all_more (p := ⟨a0, a1, a2, a3, a4, a5, a6, a7, a8, a9⟩) (q := ⟨b0, b1, b2, b3, b4, b5, b6, b7, b8, b9⟩) 4 HALL.out h)
        by_cases he : a4 = b4
        · have d1 : (a4 != b4) = false := by simpa using he
          have HE := hid he
          clear he
          go_wp2_with fail
          first
          | exact ⟨⟨4 + 1, by decide, rfl, HS.out HE.out, (by repeat' (first | exact HGR.out | refine Grew.alloc ?_ _ | refine Grew.drewN ?_ _))⟩, by simp [intOf]⟩
          | (go_roundw
             case rel => exact ⟨4 + 1, by decide, rfl, HS.out HE.out, (by repeat' (first | exact HGR.out | refine Grew.alloc ?_ _ | refine Grew.drewN ?_ _))⟩
             case measure => simp [intOf])
        · have d1 : (a4 != b4) = true := by simpa using he
          have HE := hid he
          clear he
          go_wp2_with fail
          go_ret
          exact ⟨by rw [HX.out HE.out]; rfl, (by repeat' (first | exact HGR.out | refine Grew.alloc ?_ _ | refine Grew.drewN ?_ _))⟩
      | 5, _ =>
        have HX := hid (cmpF_at (p := ⟨a0, a1, a2, a3, a4, a5, a6, a7, a8, a9⟩) (q := ⟨b0, b1, b2, b3, b4, b5, b6, b7, b8, b9⟩) 5 (by decide) HALL.out)
        have HS := hid (fun h : a5 = b5 => all_more (p := ⟨a0, a1, a2, a3, a4, a5, a6, a7, a8, a9⟩) (q := ⟨b0, b1, b2, b3, b4, b5, b6, b7, b8, b9⟩) 5 HALL.out h)
        by_cases he : a5 = b5
        · have d1 : (a5 != b5) = false := by simpa using he
          have HE := hid he
          clear he
          go_wp2_with fail
          first
          | exact ⟨⟨5 + 1, by decide, rfl, HS.out HE.out, (by repeat' (first | exact HGR.out | refine Grew.alloc ?_ _ | refine Grew.drewN ?_ _))⟩, by simp [intOf]⟩
          | (go_roundw
             case rel => exact ⟨5 + 1, by decide, rfl, HS.out HE.out, (by repeat' (first | exact HGR.out | refine Grew.alloc ?_ _ | refine Grew.drewN ?_ _))⟩
             case measure => simp [intOf])
        · have d1 : (a5 != b5) = true := by simpa using he
          have HE := hid he
          clear he
          go_wp2_with fail
          go_ret
          exact ⟨by rw [HX.out HE.out]; rfl, (by repeat' (first | exact HGR.out | refine Grew.alloc ?_ _ | refine Grew.drewN ?_ _))⟩
      | 6, _ =>
        have HX := hid (cmpF_at (p := ⟨a0, a1, a2, a3, a4, a5, a6, a7, a8, a9⟩) (q := ⟨b0, b1, b2, b3, b4, b5, b6, b7, b8, b9⟩) 6 (by decide) HALL.out)
        have HS := hid (fun h : a6 = b6 => all_more (p := ⟨a0, a1, a2, a3, a4, a5, a6, a7, a8, a9⟩) (q := ⟨b0, b1, b2, b3, b4, b5, b6, b7, b8, b9⟩) 6 HALL.out h)
        by_cases he : a6 = b6
        · have d1 : (a6 != b6) = false := by simpa using he
          have HE := hid he
          clear he
          go_wp2_with fail
          first
          | exact ⟨⟨6 + 1, by decide, rfl, HS.out HE.out, (by repeat' (first | exact HGR.out | refine Grew.alloc ?_ _ | refine Grew.drewN ?_ _))⟩, by simp [intOf]⟩
          | (go_roundw
             case rel => exact ⟨6 + 1, by decide, rfl, HS.out HE.out, (by repeat' (first | exact HGR.out | refine Grew.alloc ?_ _ | refine Grew.drewN ?_ _))⟩
             case measure => simp [intOf])
        · have d1 : (a6 != b6) = true := by simpa using he
          have HE := hid he
          clear he
          go_wp2_with fail
          go_ret
          exact ⟨by rw [HX.out HE.out]; rfl, (by repeat' (first | exact HGR.out | refine Grew.alloc ?_ _ | refine Grew.drewN ?_ _))⟩
      | 7, _ =>
        have HX := hid (cmpF_at (p := ⟨a0, a1, a2, a3, a4, a5, a6, a7, a8, a9⟩) (q := ⟨b0, b1, b2, b3, b4, b5, b6, b7, b8, b9⟩) 7 (by decide) HALL.out)
        have HS := hid (fun h : a7 = b7 => all_more (p := ⟨a0, a1, a2, a3, a4, a5, a6, a7, a8, a9⟩) (q := ⟨b0, b1, b2, b3, b4, b5, b6, b7, b8, b9⟩) 7 HALL.out h)
        by_cases he : a7 = b7
        · have d1 : (a7 != b7) = false := by simpa using he
          have HE := hid he
          clear he
          go_wp2_with fail
          first
          | exact ⟨⟨7 + 1, by decide, rfl, HS.out HE.out, (by repeat' (first | exact HGR.out | refine Grew.alloc ?_ _ | refine Grew.drewN ?_ _))⟩, by simp [intOf]⟩
          | (go_roundw
             case rel => exact ⟨7 + 1, by decide, rfl, HS.out HE.out, (by repeat' (first | exact HGR.out | refine Grew.alloc ?_ _ | refine Grew.drewN ?_ _))⟩
             case measure => simp [intOf])
        · have d1 : (a7 != b7) = true := by simpa using he
          have HE := hid he
          clear he
          go_wp2_with fail
          go_ret
          exact ⟨by rw [HX.out HE.out]; rfl, (by repeat' (first | exact HGR.out | refine Grew.alloc ?_ _ | refine Grew.drewN ?_ _))⟩
      | 8, _ =>
        have HX := hid (cmpF_at (p := ⟨a0, a1, a2, a3, a4, a5, a6, a7, a8, a9⟩) (q := ⟨b0, b1, b2, b3, b4, b5, b6, b7, b8, b9⟩) 8 (by decide) HALL.out)
        have HS := hid (fun h : a8 = b8 => all_more (p := ⟨a0, a1, a2, a3, a4, a5, a6, a7, a8, a9⟩) (q := ⟨b0, b1, b2, b3, b4, b5, b6, b7, b8, b9⟩) 8 HALL.out h)
        by_cases he : a8 = b8
        · have d1 : (a8 != b8) = false := by simpa using he
          have HE := hid he
          clear he
          go_wp2_with fail
          first
          | exact ⟨⟨8 + 1, by decide, rfl, HS.out HE.out, (by repeat' (first | exact HGR.out | refine Grew.alloc ?_ _ | refine Grew.drewN ?_ _))⟩, by simp [intOf]⟩
          | (go_roundw
             case rel => exact ⟨8 + 1, by decide, rfl, HS.out HE.out, (by repeat' (first | exact HGR.out | refine Grew.alloc ?_ _ | refine Grew.drewN ?_ _))⟩
             case measure => simp [intOf])
        · have d1 : (a8 != b8) = true := by simpa using he
          have HE := hid he
          clear he
          go_wp2_with fail
          go_ret
          exact ⟨by rw [HX.out HE.out]; rfl, (by repeat' (first | exact HGR.out | refine Grew.alloc ?_ _ | refine Grew.drewN ?_ _))⟩
      | 9, _ =>
        have HX := hid (cmpF_at (p := ⟨a0, a1, a2, a3, a4, a5, a6, a7, a8, a9⟩) (q := ⟨b0, b1, b2, b3, b4, b5, b6, b7, b8, b9⟩) 9 (by decide) HALL.out)
        have HS := hid (fun h : a9 = b9 => all_more (p := ⟨a0, a1, a2, a3, a4, a5, a6, a7, a8, a9⟩) (q := ⟨b0, b1, b2, b3, b4, b5, b6, b7, b8, b9⟩) 9 HALL.out h)
        by_cases he : a9 = b9
        · have d1 : (a9 != b9) = false := by simpa using he
          have HE := hid he
          clear he
          go_wp2_with fail
          first
          | exact ⟨⟨9 + 1, by decide, rfl, HS.out HE.out, (by repeat' (first | exact HGR.out | refine Grew.alloc ?_ _ | refine Grew.drewN ?_ _))⟩, by simp [intOf]⟩
          | (go_roundw
             case rel => exact ⟨9 + 1, by decide, rfl, HS.out HE.out, (by repeat' (first | exact HGR.out | refine Grew.alloc ?_ _ | refine Grew.drewN ?_ _))⟩
             case measure => simp [intOf])
        · have d1 : (a9 != b9) = true := by simpa using he
          have HE := hid he
          clear he
          go_wp2_with fail
          go_ret
          exact ⟨by rw [HX.out HE.out]; rfl, (by repeat' (first | exact HGR.out | refine Grew.alloc ?_ _ | refine Grew.drewN ?_ _))⟩
    · have e3 : decide ((i : Int) < 10) = false := decide_eq_false (by omega)
      obtain rfl : i = 10 := by omega
      have HX := hid (cmpF_same (p := ⟨a0, a1, a2, a3, a4, a5, a6, a7, a8, a9⟩) (q := ⟨b0, b1, b2, b3, b4, b5, b6, b7, b8, b9⟩) HALL.out)
      go_wp2_with fail
      go_ret
      exact ⟨by rw [HX.out]; rfl, HGR.out⟩
end Go.Proofs.Yteoikaedpgianaa
