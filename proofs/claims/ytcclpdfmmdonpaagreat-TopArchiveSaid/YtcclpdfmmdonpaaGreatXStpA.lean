/- What stands between the steps of a script: the archive, its disk, and the reference's archive beside it. The end of a step (17), and the kinds of steps that change nothing but the disk: pieces. -/
import Derived.Test.YtcclpdfmmdonpaaGreatXRefA
import Derived.Test.YtcclpdfmmdonpaaGreatXOpe
namespace Go.Proofs.YtcclpdfmmdonpaaGreat
open Go.RowKit Go.WideShapes Go.ChangeAt Go.Maps Go.Sort
structure Sta (W : World) (B g gd bb N : Nat) (a : Ac) (d : Dk) (bv sv pv vv rv : Value) : Prop where
  arc : ArcV W B g gd a bv sv pv
  dk : DkV W B gd d
  hol : Holds N d a
  bx : W.heap[bb]? = some (.cells (rfRow a.c vv rv) 33)
  hb : B <= bb
  vs : OwnI W B vv (versL a.lg.first a.pts.length)
  ps : OwnV W B rv a.pts
  sep : ∀ k, rv.ownBlock = some k -> pv.ownBlock ≠ some k
  hB : B <= W.heap.size
theorem Sta.still {W W' : World} {B g gd bb N : Nat} {a : Ac} {d : Dk} {bv sv pv vv rv : Value} (h : Sta W B g gd bb N a d bv sv pv vv rv) (hb : Below W.heap.size W W') : Sta W' B g gd bb N a d bv sv pv vv rv :=
  ⟨h.arc.still hb, h.dk.still hb, h.hol, heap_still hb h.bx, h.hb, OwnR.grow h.vs hb, h.ps.still hb, h.sep, Nat.le_trans h.hB hb.size⟩
theorem Sta.pos {W : World} {B g gd bb N : Nat} {a : Ac} {d : Dk} {bv sv pv vv rv : Value} (h : Sta W B g gd bb N a d bv sv pv vv rv) : a.pts.length = a.lg.steps.length + 1 := h.hol.runs.len
theorem Sta.small {W : World} {B g gd bb N : Nat} {a : Ac} {d : Dk} {bv sv pv vv rv : Value} (h : Sta W B g gd bb N a d bv sv pv vv rv) (hN : N <= 1000) : Small a := h.hol.small hN
def inV (f : Int) (n : Nat) (v : Int) : Bool := decide (f <= v) && decide (v < f + (n : Int))
def fndS (f : Int) (L : List (List Pt)) (v : Int) : List Pt := if inV f L.length v = true then L.getD (v - f).toNat [] else []
theorem inV_yes {f : Int} {L : List (List Pt)} {v : Int} (h : inV f L.length v = true) : ∃ (i : Nat) (p : List Pt), L[i]? = some p /\ v = f + (i : Int) /\ fndS f L v = p /\ i = (v - f).toNat := by
  have h' := h; simp only [inV, Bool.and_eq_true, decide_eq_true_eq] at h'; have hi : (v - f).toNat < L.length := by omega
  refine ⟨(v - f).toNat, L[(v - f).toNat], List.getElem?_eq_getElem hi, by omega, ?_, rfl⟩; unfold fndS; rw [if_pos h, List.getD_eq_getElem?_getD, List.getElem?_eq_getElem hi]; rfl
theorem inV_no {f : Int} {n : Nat} {v : Int} (h : inV f n v = false) : v < f ∨ f + (n : Int) <= v := by
  simp only [inV, Bool.and_eq_false_iff, decide_eq_false_iff_not] at h; omega
theorem fndS_no {f : Int} {L : List (List Pt)} {v : Int} (h : inV f L.length v = false) : fndS f L v = [] := by
  unfold fndS; rw [if_neg (by rw [h]; decide)]
theorem fndS_at {f : Int} {L : List (List Pt)} {i : Nat} {p : List Pt} (h : L[i]? = some p) : inV f L.length (f + (i : Int)) = true /\ fndS f L (f + (i : Int)) = p := by
  have hi := (List.getElem?_eq_some_iff.1 h).1; have hv : inV f L.length (f + (i : Int)) = true := by
    simp only [inV, Bool.and_eq_true, decide_eq_true_eq]; omega
  refine ⟨hv, ?_⟩; unfold fndS; rw [if_pos hv, List.getD_eq_getElem?_getD, show (f + (i : Int) - f).toNat = i by omega, h]; rfl
theorem rfind_x (B : Nat) (c f v : Int) (vv pv : Value) (L : List (List Pt)) (w : World) (hv : OwnI w B vv (versL f L.length)) (hp : OwnV w B pv L) (hn : L.length <= 1000000) (hf : 0 <= f /\ f <= 1000000) :
    Calls Tryz.prog 28 #[.agg #[.int .i64 c, vv, pv], .int .i64 v] w fun r w' => (∃ x, r = .returned (.tuple #[x, .bool (inV f L.length v)]) /\ OwnP w' B x (fndS f L v)) /\ Below w.heap.size w w' := by
  refine (rfind_any B c f v vv pv L w hv hp hn hf).mono ?_; rintro r w1 ⟨h, hb⟩; refine ⟨?_, hb⟩
  rcases h with ⟨i, p, x, h1, rfl, rfl, h3⟩ | ⟨h1, rfl⟩
  · obtain ⟨q1, q2⟩ := fndS_at (f := f) h1; rw [q1, q2]; exact ⟨x, rfl, h3⟩
  · have h2 : inV f L.length v = false := by
      simp only [inV, Bool.and_eq_false_iff, decide_eq_false_iff_not]; omega
    rw [h2, fndS_no h2]; exact ⟨_, rfl, OwnR.nil _ _ _ _⟩
open Go.RowKit Go.WideShapes Go.ChangeAt Go.Maps Go.Sort
def StpPost (B gd bb N : Nat) (c : Int) (W : World) (r : Ending) (w' : World) : Prop :=
  (∃ (g' : Nat) (a' : Ac) (d' : Dk) (bv' sv' pv' vv' rv' : Value), r = .returned (.pointer (some ⟨g', 0, none⟩)) /\ Sta w' B g' gd bb (N + 2) a' d' bv' sv' pv' vv' rv' /\ a'.c = c /\ d'.lf = 0) /\ Below B W w'
end Go.Proofs.YtcclpdfmmdonpaaGreat
