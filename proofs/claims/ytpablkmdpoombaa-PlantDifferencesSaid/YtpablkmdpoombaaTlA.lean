/- Texts of the seat Yteanlcefdoigcaa, turned to this one by wip/port.py: Base Args Maps LawKit Valid Keys LayM SortF Lay1 LayX RSort RLay TileM TileX. -/
import Derived.Test.YtpablkmdpoombaaFund
import Derived.Test.YtpablkmdpoombaaVal
import Derived.Test.YtpablkmdpoombaaPts
import Derived.Test.YtpablkmdpoombaaSrt
import Derived.Test.YtpablkmdpoombaaNum
import Derived.Test.YtpablkmdpoombaaCrc
import Derived.Test.YtpablkmdpoombaaEnc
import Derived.Test.YtpablkmdpoombaaRp
import Derived.Test.YtpablkmdpoombaaAidB
import Derived.Test.YtpablkmdpoombaaAidC
import Derived.Test.YtpablkmdpoombaaAidD
import Derived.Test.YtpablkmdpoombaaAidE
import Derived.WalkKit
import Derived.ProofKit
import Derived.Handy
import Derived.WalkSpells
import Derived.Deep.QuietTactic
import Derived.BigQuiet
import Derived.BigRegion
import Derived.Laws.CopyOwn
import Derived.Lib.SmallJoins
import Derived.Orders
import Derived.Laws.Tables
import Derived.Deep.MidRow
import Derived.OpenShut
import Derived.Deep.Slices
import Derived.Maps.AppendAt
import Derived.Maps.Own
import Derived.Maps.OwnSet
import Derived.Maps.Views
import Derived.Maps.RangeWalk
import GoSem.Claim
import GoSem.ClaimJoined
import Derived.SizedLaws
import Derived.Carry
import Derived.Lib.QuietBelow
import Derived.Laws.Bits64b
import Derived.Laws.Shifts
import Derived.Lib.SliceRun
import Derived.Lib.BitFns
import Derived.Shelf.SlSortCmp.NoneTotal
/- Base -/
namespace Go.Proofs.Ytpablkmdpoombaa
open Go.RowKit

section
variable {P : Program} {fn : Func} {p u v : Tmp} {ty : TypeId} {tmps : Array Value} {w : World} {g : Nat} {t : TypeId} {cs : Array Value} {fr : Nat × Nat} {d : TypeDesc} {n : Nat}
end
end Go.Proofs.Ytpablkmdpoombaa
namespace Go.Proofs.Ytpablkmdpoombaa
open Go.RowKit

section
variable {P : Program} {Q : Exit → Act → World → Prop} {J : (Nat → Bool) → Act → World → Prop}

end
end Go.Proofs.Ytpablkmdpoombaa
namespace Go.Proofs.Ytpablkmdpoombaa
open Go.RowKit

section
variable {P : Program} {Q : Exit → Act → World → Prop}
/-- the value is this one -/
def IsV (x : Value) (_ : World) (v : Value) : Prop := v = x
theorem IsV.stb (x : Value) : Stb (IsV x) := fun _ _ _ _ h => h
end
end Go.Proofs.Ytpablkmdpoombaa
namespace Go.Proofs.Ytpablkmdpoombaa
open Go.RowKit

/-- each operation waits for all of the first c -/
def covers (c : Nat) (l : List Oper) : Bool := l.all fun o => (List.range c).all fun j => o.after.any fun e => Region.binds .any e && e.on == j
section
variable {P : Program} {Q : Exit → Act → World → Prop}
theorem two_first {ops : Array Oper} {A0 : Act} {ds : List (Option Nat)} {B : World} {Pr : Nat → World → Value → Prop} (hPr : ∀ j W W' v, Below W.heap.size W W' → Pr j W v → Pr j W' v) (c : Nat)
    (R2 : (Nat → Bool) → (Nat → Value) → World → Prop) : ∀ {l : List Oper} {k : Nat}, k + l.length ≤ c → backB k l = true → PtSteps P ops Q A0 ds B Pr k l →
    BySteps P ops Q A0 ds (fun L us W => ((∀ j, c ≤ j → j < ds.length → L j = false) ∧ Below B.heap.size B W ∧ ∀ j, j < c → L j = true → Pr j W (us j)) ∨ ((∀ j, j < c → L j = true) ∧ R2 L us W)) k l
  | [], _, _, _, _ => trivial
  | o :: rest, k, hl, hb, hs => by
    simp only [List.length_cons] at hl
    simp only [backB, Bool.and_eq_true] at hb
    refine ⟨?_, two_first hPr c R2 (by omega) hb.2 hs.2⟩
    intro K L us W hK hL hd hR
    rcases hR with ⟨hn, hB, hp⟩ | ⟨ha, _⟩
    · have hdep : ∀ e ∈ o.after, Region.binds .any e = true → L e.on = true := by
        intro e he hbi
        rw [Array.all_eq_true'] at hd
        have := hd e he
        rw [hbi] at this
        simpa using this
      have hlt : ∀ e ∈ o.after, Region.binds .any e = true → e.on < k := by
        intro e he hbi
        have hb1 := hb.1
        rw [Array.all_eq_true'] at hb1
        have := hb1 e he
        rw [hbi] at this
        simpa using this
      refine hs.1 K us W ?_ hB ?_
      · intro v A' W' hA hB' hv
        refine hK v A' W' hA (Or.inl ⟨?_, hB.trans (hB'.mono hB.size), ?_⟩)
        · intro j hj hjn
          have h1 := hn j hj hjn
          simp [h1]
          omega
        · intro j hjc hj
          by_cases hjk : j = k
          · subst hjk; simpa [updF] using hv
          · simp only [updF, hjk, if_false]
            exact hPr j W W' _ hB' (hp j hjc (by simpa [hjk] using hj))
      · intro e he hbi
        have := hlt e he hbi
        exact hp e.on (by omega) (hdep e he hbi)
    · rw [ha k (by omega)] at hL
      cases hL
theorem two_last {ops : Array Oper} {A0 : Act} {ds : List (Option Nat)} {B : World} {Pr : Nat → World → Value → Prop} (c : Nat)
    (R2 : (Nat → Bool) → (Nat → Value) → World → Prop)
    (h12 : ∀ L us W, (∀ j, j < c → L j = true) → (∀ j, c ≤ j → j < ds.length → L j = false) → Below B.heap.size B W → (∀ j, j < c → Pr j W (us j)) → R2 L us W) : ∀ {l : List Oper} {k : Nat}, covers c l = true →
    BySteps P ops Q A0 ds R2 k l →
    BySteps P ops Q A0 ds (fun L us W => ((∀ j, c ≤ j → j < ds.length → L j = false) ∧ Below B.heap.size B W ∧ ∀ j, j < c → L j = true → Pr j W (us j)) ∨ ((∀ j, j < c → L j = true) ∧ R2 L us W)) k l
  | [], _, _, _ => trivial
  | o :: rest, k, hc, hs => by
    simp only [covers, List.all_cons, Bool.and_eq_true] at hc
    refine ⟨?_, two_last c R2 h12 hc.2 hs.2⟩
    intro K L us W hK hL hd hR
    have hall : ∀ j, j < c → L j = true := by
      intro j hj
      have h1 := hc.1
      rw [List.all_eq_true] at h1
      have h2 := h1 j (List.mem_range.2 hj)
      rw [Array.any_eq_true'] at h2
      obtain ⟨e, he, h3⟩ := h2
      simp only [Bool.and_eq_true, beq_iff_eq] at h3
      rw [Array.all_eq_true'] at hd
      have h4 := hd e he
      rw [h3.1, h3.2] at h4
      simpa using h4
    have hR2 : R2 L us W := by
      rcases hR with ⟨hn, hB, hp⟩ | ⟨_, h⟩
      · exact h12 L us W hall hn hB (fun j hj => hp j hj (hall j hj))
      · exact h
    refine hs.1 K L us W ?_ hL hd hR2
    intro v A' W' hA hR'
    exact hK v A' W' hA (Or.inr ⟨fun j hj => by simp [hall j hj], hR'⟩)

/-- A REGION THAT DRAWS ITS ORDER, IN TWO PARTS: the first c operations by one predicate each, those behind all of them by an invariant. -/
theorem wp_region_two {id : Nat} {l : List Oper} {A0 : Act} {w : World} (hm : P.follows .mixedOrders = true) (hb : backB 0 l = true) (ds : List (Option Nat)) (hl : l.length = ds.length) (hds : (ds.filterMap _root_.id).Nodup)
    (c : Nat) (hcl : (l.take c).length ≤ c) (hb1 : backB 0 (l.take c) = true) (hcov : covers c (l.drop c) = true) (ps : List (World → Value → Prop)) (hps : StbL ps)
    (R2 : (Nat → Bool) → (Nat → Value) → World → Prop)
    (h12 : ∀ L us W, (∀ j, j < c → L j = true) → (∀ j, c ≤ j → j < ds.length → L j = false) → Below w.heap.size w W → (∀ j, j < c → ps.getD j (fun _ _ => True) W (us j)) → R2 L us W)
    (hs1 : PtSteps P l.toArray Q A0 ds w (fun j => ps.getD j (fun _ _ => True)) 0 (l.take c)) (hs2 : BySteps P l.toArray Q A0 ds R2 (l.take c).length (l.drop c))
    (hend : ∀ L us W, (∀ j, j < ds.length → L j = true) → R2 L us W → Q .normal (putF A0 ds us) W) (hcn : c < ds.length) : (Code.region id l.toArray true).wp P Q A0 w := by
  refine wp_region_by hm hb ds hl hds (fun L us W => ((∀ j, c ≤ j → j < ds.length → L j = false) ∧ Below w.heap.size w W ∧ ∀ j, j < c → L j = true → ps.getD j (fun _ _ => True) W (us j)) ∨ ((∀ j, j < c → L j = true) ∧ R2 L us W)) (selfF A0 ds) (putF_self A0 ds) (Or.inl ⟨fun _ _ _ => rfl, (Below.refl _ _).drew, by simp⟩) ?_ ?_
  · have h1 := two_first (ops := l.toArray) (Q := Q) (A0 := A0) (ds := ds) (B := w) hps.at c R2 (k := 0) (l := l.take c) (by omega) hb1 hs1
    have h2 := two_last (ops := l.toArray) (Q := Q) (A0 := A0) (ds := ds) (B := w) (Pr := fun j => ps.getD j (fun _ _ => True)) c R2 h12 (k := (l.take c).length) hcov hs2
    have h3 := BySteps.append h1 (by rw [Nat.zero_add]; exact h2)
    rw [List.take_append_drop] at h3
    exact h3
  · rintro L us W hL (⟨hn, _, _⟩ | ⟨_, h⟩)
    · have := hn c (Nat.le_refl _) hcn
      rw [hL c hcn] at this
      cases this
    · exact hend L us W hL h
end
end Go.Proofs.Ytpablkmdpoombaa
namespace Go.Proofs.Ytpablkmdpoombaa
open Go.RowKit

section
variable {P : Program} {Q : Exit → Act → World → Prop}
end
end Go.Proofs.Ytpablkmdpoombaa
namespace Go.Proofs.Ytpablkmdpoombaa
open Go.RowKit
section
variable {P : Program} {Q : Exit → Act → World → Prop}
theorem wp_region_last {id : Nat} {l : List Oper} {A0 : Act} {w : World} (hm : P.follows .mixedOrders = true) (hb : backB 0 l = true) (ds : List (Option Nat)) (hl : l.length = ds.length) (hds : (ds.filterMap _root_.id).Nodup)
    (c : Nat) {o : Oper} (ho : l.drop c = [o]) (hb1 : backB 0 (l.take c) = true) (hcov : covers c (l.drop c) = true) (ps : List (World → Value → Prop)) (hps : StbL ps)
    (hs1 : PtSteps P l.toArray Q A0 ds w (fun j => ps.getD j (fun _ _ => True)) 0 (l.take c))
    (hlast : ∀ (K : Act → World → Prop) (us : Nat → Value) (W : World), (∀ v A' W', A' = (putF A0 ds us).put (ds.getD c none) v → Q .normal A' W' → K A' W') → Below w.heap.size w W → (∀ j, j < c → ps.getD j (fun _ _ => True) W (us j)) → wpList P l.toArray (Exit.then K Q) [o] (putF A0 ds us) W) :
    (Code.region id l.toArray true).wp P Q A0 w := by
  have hlen : l.length = c + 1 := by
    have h1 := congrArg List.length ho
    rw [List.length_drop] at h1
    simp at h1
    omega
  refine wp_region_two hm hb ds hl hds c (List.length_take_le _ _) hb1 hcov ps hps (fun L us W => (L c = false → Below w.heap.size w W ∧ ∀ j, j < c → ps.getD j (fun _ _ => True) W (us j)) ∧ (L c = true → Q .normal (putF A0 ds us) W)) ?_ hs1 ?_ ?_ (by omega)
  · intro L us W _ h2 hB hp
    exact ⟨fun _ => ⟨hB, hp⟩, fun h => by rw [h2 c (Nat.le_refl _) (by omega)] at h; cases h⟩
  · rw [List.length_take, hlen, Nat.min_eq_left (Nat.le_succ c), ho]
    refine ⟨?_, trivial⟩
    intro K L us W hK hL _ hR
    obtain ⟨hB, hp⟩ := hR.1 hL
    refine hlast K us W (fun v A' W' hA hQ => hK v A' W' hA ⟨fun h => by simp at h, fun _ => ?_⟩) hB hp
    rw [← putF_upd ds A0 us c v hds (by omega), ← hA]
    exact hQ
  · intro L us W hL hR
    exact hR.2 (hL c (by omega))
end
end Go.Proofs.Ytpablkmdpoombaa
namespace Go.Proofs.Ytpablkmdpoombaa
open Go.RowKit

section
variable {P : Program} {Q : Exit → Act → World → Prop}
end
end Go.Proofs.Ytpablkmdpoombaa
namespace Go.Proofs.Ytpablkmdpoombaa
open Go.RowKit

section
variable {P : Program} {Q : Exit → Act → World → Prop}
end
end Go.Proofs.Ytpablkmdpoombaa
namespace Go.Proofs.Ytpablkmdpoombaa
open Go.RowKit

section
variable {W0 W W' : World} {c m : Nat} {V : Nat → Value} {Z C : Nat → Array Value} {T : Nat → TypeId} {L : Nat → Bool} {us : Nat → Value}
end
end Go.Proofs.Ytpablkmdpoombaa
namespace Go.Proofs.Ytpablkmdpoombaa
open Go.RowKit Go.Deep

end Go.Proofs.Ytpablkmdpoombaa

/- Args -/
namespace Go.Proofs.Ytpablkmdpoombaa
open Go.RowKit

section
variable {P : Program}

theorem equal_array {t e : TypeId} {n : Nat} {ks : List (Option IntKind)} (hu : P.underlying t = some (.array n e)) (h : flatOf P 10 t = some ks) (xs ys : List Value) (h1 : fits ks xs = true) (h2 : fits ks ys = true) (W : World) :
    (Op.equalIn 10000 t (.agg xs.toArray) (.agg ys.toArray)).run P W = .ok (sameL xs ys) W := by
  have := run_equal_flat W 10 t ks h 10000 (by omega) xs ys h1 h2
  simpa only [whole, hu] using this
end
end Go.Proofs.Ytpablkmdpoombaa
namespace Go.Proofs.Ytpablkmdpoombaa
open Go.ChangeShapes Go.WideShapes Go.ChangeAt Go.RowKit

section
variable {H : Type} {enc : TypeId × Value → H} {P : Program} {w : World} {base : Nat} {spare : Nat → Bool} {held : Bool}

end
end Go.Proofs.Ytpablkmdpoombaa
namespace Go.Proofs.Ytpablkmdpoombaa
open Go.ChangeShapes Go.WideShapes Go.ChangeAt Go.RowKit Go.Deep
section
variable {H : Type} {enc : TypeId × Value → H} {P : Program} {w : World} {base : Nat} {spare : Nat → Bool} {held : Bool}

end
end Go.Proofs.Ytpablkmdpoombaa

/- Maps -/
namespace Go.Proofs.Ytpablkmdpoombaa
open Go.RowKit

section
variable {W W' : World} {base base' t sz : Nat} {v : Value} {l : List (List Value)}
end
end Go.Proofs.Ytpablkmdpoombaa
namespace Go.Proofs.Ytpablkmdpoombaa
open Go.RowKit Go.Maps

section
variable {P : Program} {W W' : World} {k t e : TypeId} {b n : Nat} {get : Lit → Option Value}
end
end Go.Proofs.Ytpablkmdpoombaa
namespace Go.Proofs.Ytpablkmdpoombaa
open Go.RowKit Go.Maps
open Go.ChangeMaps (heap_setBlock_same)
open Go.WideElems (other_key)

section
variable {P : Program} {W W' : World} {k t e : TypeId} {b n : Nat} {get : Lit → Option Value}
end
end Go.Proofs.Ytpablkmdpoombaa
namespace Go.Proofs.Ytpablkmdpoombaa
open Go.RowKit Go.Maps

section
variable {P : Program} {W W' : World} {k t e : TypeId} {b r n cnt : Nat} {get : Lit → Option Value} {left : Lit → Bool}
end
end Go.Proofs.Ytpablkmdpoombaa

/- LawKit -/
namespace Go.Proofs.Ytpablkmdpoombaa
open Go.ChangeShapes Go.WideShapes Go.ChangeAt Go.RowKit
section
variable {H : Type} {enc : TypeId × Value → H}

end
end Go.Proofs.Ytpablkmdpoombaa
namespace Go.Proofs.Ytpablkmdpoombaa
open Go.ChangeShapes Go.WideShapes Go.ChangeAt Go.RowKit

end Go.Proofs.Ytpablkmdpoombaa

/- Valid -/
namespace Go.Proofs.Ytpablkmdpoombaa
open Go.RowKit

end Go.Proofs.Ytpablkmdpoombaa
namespace Go.Proofs.Ytpablkmdpoombaa
open Go.RowKit Go.Maps

end Go.Proofs.Ytpablkmdpoombaa
namespace Go.Proofs.Ytpablkmdpoombaa
open Go.RowKit Go.Maps

end Go.Proofs.Ytpablkmdpoombaa
namespace Go.Proofs.Ytpablkmdpoombaa
open Go.RowKit Go.Maps Go.Sort

end Go.Proofs.Ytpablkmdpoombaa
namespace Go.Proofs.Ytpablkmdpoombaa
open Go.RowKit
theorem xRank_any (id : Int) (w : World) : Calls Try.prog 101 #[.int .i64 id] w fun e w' => e = .returned (.int .u64 (rankV id)) ∧ w = w' := by
  go_enter Try.func101, Try.ntmps101
  go_wp2_with fail
  go_ret
  exact ⟨rfl, rfl⟩
theorem wrap_div (x c : Int) (hc : 1 ≤ c) : IntKind.u64.wrap ((IntKind.u64.wrap x).tdiv c) = IntKind.u64.wrap x / c := by
  have h0 := wrap_u64_nonneg x
  have h1 : IntKind.u64.wrap x < 18446744073709551616 := by rw [IntKind.wrap_u64]; omega
  rw [Int.tdiv_eq_ediv_of_nonneg h0]
  generalize IntKind.u64.wrap x = y at *
  rw [IntKind.wrap_u64]
  have h2 : 0 ≤ y / c := Int.ediv_nonneg h0 (by omega)
  have h3 : y / c ≤ y := Int.ediv_le_self c h0
  omega
theorem rRank_any (id : Int) (w : World) : Calls Try.prog 105 #[.int .i64 id] w fun e w' => e = .returned (.int .u64 (rankV id)) ∧ w = w' := by
  have h0 := wrap_u64_nonneg
  go_enter Try.func105, Try.ntmps105
  go_wp2_with fail
  simp only [wrap_div _ 1073741824 (by decide), wrap_div _ 134217728 (by decide), wrap_div _ 2147483648 (by decide)]
  go_ret
  exact ⟨rfl, rfl⟩
end Go.Proofs.Ytpablkmdpoombaa
namespace Go.Proofs.Ytpablkmdpoombaa
open Go.RowKit

end Go.Proofs.Ytpablkmdpoombaa
namespace Go.Proofs.Ytpablkmdpoombaa
open Go.RowKit

end Go.Proofs.Ytpablkmdpoombaa
namespace Go.Proofs.Ytpablkmdpoombaa
open Go.RowKit

end Go.Proofs.Ytpablkmdpoombaa

/- Keys -/
namespace Go.Proofs.Ytpablkmdpoombaa
open Go.RowKit

set_option maxRecDepth 100000 in
theorem index_any (n : Int) (L : Nat) (hL : L ≤ 12) (hn : -268435456 ≤ n ∧ n ≤ 268435456) (w : World) :
    Calls Try.prog 160 #[.int .i64 n, .int .i64 L] w fun e w' => e = .returned (.int .i64 (idxV n L)) ∧ Below w.heap.size w w' := by
  match L, hL with
  | 0, _ =>
    have hv : idxV n 0 = min ((n + 268435456) / 536870912) 0 := rfl
    have HV := hid hv
    clear hv
    go_enter Try.func160, Try.ntmps160
    go_wp2_with fail
    all_goals (go_ret; refine ⟨?_, Below.refl _ _⟩; show Ending.returned (Value.int .i64 _) = Ending.returned (Value.int .i64 _); (rw [HV.out] <;> (congr 2 <;> omega)))
  | 1, _ =>
    have hv : idxV n 1 = min ((n + 268435456) / 268435456) 1 := rfl
    have HV := hid hv
    clear hv
    go_enter Try.func160, Try.ntmps160
    go_wp2_with fail
    all_goals (go_ret; refine ⟨?_, Below.refl _ _⟩; show Ending.returned (Value.int .i64 _) = Ending.returned (Value.int .i64 _); (rw [HV.out] <;> (congr 2 <;> omega)))
  | 2, _ =>
    have hv : idxV n 2 = min ((n + 268435456) / 134217728) 3 := rfl
    have HV := hid hv
    clear hv
    go_enter Try.func160, Try.ntmps160
    go_wp2_with fail
    all_goals (go_ret; refine ⟨?_, Below.refl _ _⟩; show Ending.returned (Value.int .i64 _) = Ending.returned (Value.int .i64 _); (rw [HV.out] <;> (congr 2 <;> omega)))
  | 3, _ =>
    have hv : idxV n 3 = min ((n + 268435456) / 67108864) 7 := rfl
    have HV := hid hv
    clear hv
    go_enter Try.func160, Try.ntmps160
    go_wp2_with fail
    all_goals (go_ret; refine ⟨?_, Below.refl _ _⟩; show Ending.returned (Value.int .i64 _) = Ending.returned (Value.int .i64 _); (rw [HV.out] <;> (congr 2 <;> omega)))
  | 4, _ =>
    have hv : idxV n 4 = min ((n + 268435456) / 33554432) 15 := rfl
    have HV := hid hv
    clear hv
    go_enter Try.func160, Try.ntmps160
    go_wp2_with fail
    all_goals (go_ret; refine ⟨?_, Below.refl _ _⟩; show Ending.returned (Value.int .i64 _) = Ending.returned (Value.int .i64 _); (rw [HV.out] <;> (congr 2 <;> omega)))
  | 5, _ =>
    have hv : idxV n 5 = min ((n + 268435456) / 16777216) 31 := rfl
    have HV := hid hv
    clear hv
    go_enter Try.func160, Try.ntmps160
    go_wp2_with fail
    all_goals (go_ret; refine ⟨?_, Below.refl _ _⟩; show Ending.returned (Value.int .i64 _) = Ending.returned (Value.int .i64 _); (rw [HV.out] <;> (congr 2 <;> omega)))
  | 6, _ =>
    have hv : idxV n 6 = min ((n + 268435456) / 8388608) 63 := rfl
    have HV := hid hv
    clear hv
    go_enter Try.func160, Try.ntmps160
    go_wp2_with fail
    all_goals (go_ret; refine ⟨?_, Below.refl _ _⟩; show Ending.returned (Value.int .i64 _) = Ending.returned (Value.int .i64 _); (rw [HV.out] <;> (congr 2 <;> omega)))
  | 7, _ =>
    have hv : idxV n 7 = min ((n + 268435456) / 4194304) 127 := rfl
    have HV := hid hv
    clear hv
    go_enter Try.func160, Try.ntmps160
    go_wp2_with fail
    all_goals (go_ret; refine ⟨?_, Below.refl _ _⟩; show Ending.returned (Value.int .i64 _) = Ending.returned (Value.int .i64 _); (rw [HV.out] <;> (congr 2 <;> omega)))
  | 8, _ =>
    have hv : idxV n 8 = min ((n + 268435456) / 2097152) 255 := rfl
    have HV := hid hv
    clear hv
    go_enter Try.func160, Try.ntmps160
    go_wp2_with fail
    all_goals (go_ret; refine ⟨?_, Below.refl _ _⟩; show Ending.returned (Value.int .i64 _) = Ending.returned (Value.int .i64 _); (rw [HV.out] <;> (congr 2 <;> omega)))
  | 9, _ =>
    have hv : idxV n 9 = min ((n + 268435456) / 1048576) 511 := rfl
    have HV := hid hv
    clear hv
    go_enter Try.func160, Try.ntmps160
    go_wp2_with fail
    all_goals (go_ret; refine ⟨?_, Below.refl _ _⟩; show Ending.returned (Value.int .i64 _) = Ending.returned (Value.int .i64 _); (rw [HV.out] <;> (congr 2 <;> omega)))
  | 10, _ =>
    have hv : idxV n 10 = min ((n + 268435456) / 524288) 1023 := rfl
    have HV := hid hv
    clear hv
    go_enter Try.func160, Try.ntmps160
    go_wp2_with fail
    all_goals (go_ret; refine ⟨?_, Below.refl _ _⟩; show Ending.returned (Value.int .i64 _) = Ending.returned (Value.int .i64 _); (rw [HV.out] <;> (congr 2 <;> omega)))
  | 11, _ =>
    have hv : idxV n 11 = min ((n + 268435456) / 262144) 2047 := rfl
    have HV := hid hv
    clear hv
    go_enter Try.func160, Try.ntmps160
    go_wp2_with fail
    all_goals (go_ret; refine ⟨?_, Below.refl _ _⟩; show Ending.returned (Value.int .i64 _) = Ending.returned (Value.int .i64 _); (rw [HV.out] <;> (congr 2 <;> omega)))
  | 12, _ =>
    have hv : idxV n 12 = min ((n + 268435456) / 131072) 4095 := rfl
    have HV := hid hv
    clear hv
    go_enter Try.func160, Try.ntmps160
    go_wp2_with fail
    all_goals (go_ret; refine ⟨?_, Below.refl _ _⟩; show Ending.returned (Value.int .i64 _) = Ending.returned (Value.int .i64 _); (rw [HV.out] <;> (congr 2 <;> omega)))
  | L + 13, h => omega
set_option maxRecDepth 100000 in
theorem step_any (n : Int) (L : Nat) (hL : L ≤ 12) (hn : -268435456 ≤ n ∧ n ≤ 268435456) (w : World) :
    Calls Try.prog 161 #[.int .i64 n, .int .i64 L] w fun e w' => e = .returned (.int .i64 (idxV n L)) ∧ Below w.heap.size w w' := by
  match L, hL with
  | 0, _ =>
    have hv : idxV n 0 = min ((n + 268435456) / 536870912) 0 := rfl
    have HV := hid hv
    clear hv
    go_enter Try.func161, Try.ntmps161
    go_wp2_with fail
    refine wp_region_quiet_below (by kernel_rfl) (by kernel_rfl) ?_
    repeat (first | go_big_quiet_step (fail) | quiet_step (fail))
    refine wpQuiet_nil ?_
    intro _ hw'
    obtain ⟨⟨dq, osq⟩, hw2⟩ := hw'
    subst hw2
    have hbq := below_regrown w dq osq
    go_wp2_with fail
    all_goals (go_ret; refine ⟨?_, hbq⟩; show Ending.returned (Value.int .i64 _) = Ending.returned (Value.int .i64 _); (rw [HV.out] <;> (congr 2 <;> omega)))
  | 1, _ =>
    have hv : idxV n 1 = min ((n + 268435456) / 268435456) 1 := rfl
    have HV := hid hv
    clear hv
    go_enter Try.func161, Try.ntmps161
    go_wp2_with fail
    refine wp_region_quiet_below (by kernel_rfl) (by kernel_rfl) ?_
    repeat (first | go_big_quiet_step (fail) | quiet_step (fail))
    refine wpQuiet_nil ?_
    intro _ hw'
    obtain ⟨⟨dq, osq⟩, hw2⟩ := hw'
    subst hw2
    have hbq := below_regrown w dq osq
    go_wp2_with fail
    all_goals (go_ret; refine ⟨?_, hbq⟩; show Ending.returned (Value.int .i64 _) = Ending.returned (Value.int .i64 _); (rw [HV.out] <;> (congr 2 <;> omega)))
  | 2, _ =>
    have hv : idxV n 2 = min ((n + 268435456) / 134217728) 3 := rfl
    have HV := hid hv
    clear hv
    go_enter Try.func161, Try.ntmps161
    go_wp2_with fail
    refine wp_region_quiet_below (by kernel_rfl) (by kernel_rfl) ?_
    repeat (first | go_big_quiet_step (fail) | quiet_step (fail))
    refine wpQuiet_nil ?_
    intro _ hw'
    obtain ⟨⟨dq, osq⟩, hw2⟩ := hw'
    subst hw2
    have hbq := below_regrown w dq osq
    go_wp2_with fail
    all_goals (go_ret; refine ⟨?_, hbq⟩; show Ending.returned (Value.int .i64 _) = Ending.returned (Value.int .i64 _); (rw [HV.out] <;> (congr 2 <;> omega)))
  | 3, _ =>
    have hv : idxV n 3 = min ((n + 268435456) / 67108864) 7 := rfl
    have HV := hid hv
    clear hv
    go_enter Try.func161, Try.ntmps161
    go_wp2_with fail
    refine wp_region_quiet_below (by kernel_rfl) (by kernel_rfl) ?_
    repeat (first | go_big_quiet_step (fail) | quiet_step (fail))
    refine wpQuiet_nil ?_
    intro _ hw'
    obtain ⟨⟨dq, osq⟩, hw2⟩ := hw'
    subst hw2
    have hbq := below_regrown w dq osq
    go_wp2_with fail
    all_goals (go_ret; refine ⟨?_, hbq⟩; show Ending.returned (Value.int .i64 _) = Ending.returned (Value.int .i64 _); (rw [HV.out] <;> (congr 2 <;> omega)))
  | 4, _ =>
    have hv : idxV n 4 = min ((n + 268435456) / 33554432) 15 := rfl
    have HV := hid hv
    clear hv
    go_enter Try.func161, Try.ntmps161
    go_wp2_with fail
    refine wp_region_quiet_below (by kernel_rfl) (by kernel_rfl) ?_
    repeat (first | go_big_quiet_step (fail) | quiet_step (fail))
    refine wpQuiet_nil ?_
    intro _ hw'
    obtain ⟨⟨dq, osq⟩, hw2⟩ := hw'
    subst hw2
    have hbq := below_regrown w dq osq
    go_wp2_with fail
    all_goals (go_ret; refine ⟨?_, hbq⟩; show Ending.returned (Value.int .i64 _) = Ending.returned (Value.int .i64 _); (rw [HV.out] <;> (congr 2 <;> omega)))
  | 5, _ =>
    have hv : idxV n 5 = min ((n + 268435456) / 16777216) 31 := rfl
    have HV := hid hv
    clear hv
    go_enter Try.func161, Try.ntmps161
    go_wp2_with fail
    refine wp_region_quiet_below (by kernel_rfl) (by kernel_rfl) ?_
    repeat (first | go_big_quiet_step (fail) | quiet_step (fail))
    refine wpQuiet_nil ?_
    intro _ hw'
    obtain ⟨⟨dq, osq⟩, hw2⟩ := hw'
    subst hw2
    have hbq := below_regrown w dq osq
    go_wp2_with fail
    all_goals (go_ret; refine ⟨?_, hbq⟩; show Ending.returned (Value.int .i64 _) = Ending.returned (Value.int .i64 _); (rw [HV.out] <;> (congr 2 <;> omega)))
  | 6, _ =>
    have hv : idxV n 6 = min ((n + 268435456) / 8388608) 63 := rfl
    have HV := hid hv
    clear hv
    go_enter Try.func161, Try.ntmps161
    go_wp2_with fail
    refine wp_region_quiet_below (by kernel_rfl) (by kernel_rfl) ?_
    repeat (first | go_big_quiet_step (fail) | quiet_step (fail))
    refine wpQuiet_nil ?_
    intro _ hw'
    obtain ⟨⟨dq, osq⟩, hw2⟩ := hw'
    subst hw2
    have hbq := below_regrown w dq osq
    go_wp2_with fail
    all_goals (go_ret; refine ⟨?_, hbq⟩; show Ending.returned (Value.int .i64 _) = Ending.returned (Value.int .i64 _); (rw [HV.out] <;> (congr 2 <;> omega)))
  | 7, _ =>
    have hv : idxV n 7 = min ((n + 268435456) / 4194304) 127 := rfl
    have HV := hid hv
    clear hv
    go_enter Try.func161, Try.ntmps161
    go_wp2_with fail
    refine wp_region_quiet_below (by kernel_rfl) (by kernel_rfl) ?_
    repeat (first | go_big_quiet_step (fail) | quiet_step (fail))
    refine wpQuiet_nil ?_
    intro _ hw'
    obtain ⟨⟨dq, osq⟩, hw2⟩ := hw'
    subst hw2
    have hbq := below_regrown w dq osq
    go_wp2_with fail
    all_goals (go_ret; refine ⟨?_, hbq⟩; show Ending.returned (Value.int .i64 _) = Ending.returned (Value.int .i64 _); (rw [HV.out] <;> (congr 2 <;> omega)))
  | 8, _ =>
    have hv : idxV n 8 = min ((n + 268435456) / 2097152) 255 := rfl
    have HV := hid hv
    clear hv
    go_enter Try.func161, Try.ntmps161
    go_wp2_with fail
    refine wp_region_quiet_below (by kernel_rfl) (by kernel_rfl) ?_
    repeat (first | go_big_quiet_step (fail) | quiet_step (fail))
    refine wpQuiet_nil ?_
    intro _ hw'
    obtain ⟨⟨dq, osq⟩, hw2⟩ := hw'
    subst hw2
    have hbq := below_regrown w dq osq
    go_wp2_with fail
    all_goals (go_ret; refine ⟨?_, hbq⟩; show Ending.returned (Value.int .i64 _) = Ending.returned (Value.int .i64 _); (rw [HV.out] <;> (congr 2 <;> omega)))
  | 9, _ =>
    have hv : idxV n 9 = min ((n + 268435456) / 1048576) 511 := rfl
    have HV := hid hv
    clear hv
    go_enter Try.func161, Try.ntmps161
    go_wp2_with fail
    refine wp_region_quiet_below (by kernel_rfl) (by kernel_rfl) ?_
    repeat (first | go_big_quiet_step (fail) | quiet_step (fail))
    refine wpQuiet_nil ?_
    intro _ hw'
    obtain ⟨⟨dq, osq⟩, hw2⟩ := hw'
    subst hw2
    have hbq := below_regrown w dq osq
    go_wp2_with fail
    all_goals (go_ret; refine ⟨?_, hbq⟩; show Ending.returned (Value.int .i64 _) = Ending.returned (Value.int .i64 _); (rw [HV.out] <;> (congr 2 <;> omega)))
  | 10, _ =>
    have hv : idxV n 10 = min ((n + 268435456) / 524288) 1023 := rfl
    have HV := hid hv
    clear hv
    go_enter Try.func161, Try.ntmps161
    go_wp2_with fail
    refine wp_region_quiet_below (by kernel_rfl) (by kernel_rfl) ?_
    repeat (first | go_big_quiet_step (fail) | quiet_step (fail))
    refine wpQuiet_nil ?_
    intro _ hw'
    obtain ⟨⟨dq, osq⟩, hw2⟩ := hw'
    subst hw2
    have hbq := below_regrown w dq osq
    go_wp2_with fail
    all_goals (go_ret; refine ⟨?_, hbq⟩; show Ending.returned (Value.int .i64 _) = Ending.returned (Value.int .i64 _); (rw [HV.out] <;> (congr 2 <;> omega)))
  | 11, _ =>
    have hv : idxV n 11 = min ((n + 268435456) / 262144) 2047 := rfl
    have HV := hid hv
    clear hv
    go_enter Try.func161, Try.ntmps161
    go_wp2_with fail
    refine wp_region_quiet_below (by kernel_rfl) (by kernel_rfl) ?_
    repeat (first | go_big_quiet_step (fail) | quiet_step (fail))
    refine wpQuiet_nil ?_
    intro _ hw'
    obtain ⟨⟨dq, osq⟩, hw2⟩ := hw'
    subst hw2
    have hbq := below_regrown w dq osq
    go_wp2_with fail
    all_goals (go_ret; refine ⟨?_, hbq⟩; show Ending.returned (Value.int .i64 _) = Ending.returned (Value.int .i64 _); (rw [HV.out] <;> (congr 2 <;> omega)))
  | 12, _ =>
    have hv : idxV n 12 = min ((n + 268435456) / 131072) 4095 := rfl
    have HV := hid hv
    clear hv
    go_enter Try.func161, Try.ntmps161
    go_wp2_with fail
    refine wp_region_quiet_below (by kernel_rfl) (by kernel_rfl) ?_
    repeat (first | go_big_quiet_step (fail) | quiet_step (fail))
    refine wpQuiet_nil ?_
    intro _ hw'
    obtain ⟨⟨dq, osq⟩, hw2⟩ := hw'
    subst hw2
    have hbq := below_regrown w dq osq
    go_wp2_with fail
    all_goals (go_ret; refine ⟨?_, hbq⟩; show Ending.returned (Value.int .i64 _) = Ending.returned (Value.int .i64 _); (rw [HV.out] <;> (congr 2 <;> omega)))
  | L + 13, h => omega
-- CELLS
theorem size39 : (Try.prog.info? 109).map (·.size) = some 4 := by kernel_rfl
/-- the four numbers of a cell's key -/
def cellC (L : Nat) (x y z : Int) : Array Value := #[.int .i64 (L : Int), .int .i64 (idxV x L), .int .i64 (idxV y L), .int .i64 (idxV z L)]
set_option maxRecDepth 100000 in
theorem xCell_any (id x y zl zh wd nm of cl : Int) (L : Nat) (hL : L ≤ 12) (hx : -268435456 ≤ x ∧ x ≤ 268435456) (hy : -268435456 ≤ y ∧ y ≤ 268435456) (hz : -268435456 ≤ zl ∧ zl ≤ 268435456) (w : World) :
    Calls Try.prog 151 #[.agg #[.int .i64 id, .int .i64 x, .int .i64 y, .int .i64 zl, .int .i64 zh, .int .i64 wd, .int .i64 nm, .int .i64 of, .int .i64 cl], .int .i64 L] w fun e w' => e = .returned (.agg (cellC L x y zl)) ∧ Below w.heap.size w w' := by
  have HIX := hid (fun W => index_any x L hL hx W)
  have HIY := hid (fun W => index_any y L hL hy W)
  have HIZ := hid (fun W => index_any zl L hL hz W)
  go_enter Try.func151, Try.ntmps151
  go_wp2_with fail
  refine gen_world (fun V hV => ?_)
  have YP := hid (show V.heap[w.heap.size]? = some (.cells #[.int .i64 id, .int .i64 x, .int .i64 y, .int .i64 zl, .int .i64 zh, .int .i64 wd, .int .i64 nm, .int .i64 of, .int .i64 cl] 78) by rw [hV]; exact heap_alloc_past _ _ _ _ (heap_alloc_at _ _ _ rfl))
  have YK := hid (show V.heap[w.heap.size + 1]? = some (.cells #[.int .i64 0, .int .i64 0, .int .i64 0, .int .i64 0] 109) by rw [hV]; exact heap_alloc_at _ _ _ (by simp))
  have YW := hid (show Below w.heap.size w V by rw [hV]; (repeat' (first | (with_reducible exact Below.refl _ _) | (with_reducible assumption) | (with_reducible refine Below.alloc ?_ ?_ _) | (with_reducible refine Below.drew ?_) | (with_reducible refine below_drewN ?_ _) | (with_reducible refine Below.setCell ?_ ?_ _) | (with_reducible refine below_setRow ?_ ?_ _) | go_size)))
  have YZ : V.heap.size = w.heap.size + 1 + 1 := by rw [hV]; simp
  clear hV
  refine gen_act (fun A0 hA => ?_)
  refine wp_region_last (by kernel_rfl) (by kernel_rfl) [some 5, some 6, some 7, some 8, some 9, some 10, some 11, some 12, some 13, some 14, some 15, some 16, some 17, some 18, some 19, none] rfl (by decide) 15 rfl (by kernel_rfl) (by kernel_rfl)
    [IsV (.int .i64 (L : Int)), IsV (.pointer (some ⟨w.heap.size, 1, none⟩)), IsV (.int .i64 x), IsV (.int .i64 (L : Int)), IsV (.int .i64 (idxV x L)), IsV (.pointer (some ⟨w.heap.size, 2, none⟩)), IsV (.int .i64 y), IsV (.int .i64 (L : Int)), IsV (.int .i64 (idxV y L)), IsV (.pointer (some ⟨w.heap.size, 3, none⟩)), IsV (.pointer (some ⟨w.heap.size, 3, none⟩)), IsV (.int .i64 zl), IsV (.int .i64 (L : Int)), IsV (.int .i64 (idxV zl L)), IsV (.agg #[.int .i64 (L : Int), .int .i64 (idxV x L), .int .i64 (idxV y L), .int .i64 (idxV zl L)])]
    ⟨IsV.stb _, IsV.stb _, IsV.stb _, IsV.stb _, IsV.stb _, IsV.stb _, IsV.stb _, IsV.stb _, IsV.stb _, IsV.stb _, IsV.stb _, IsV.stb _, IsV.stb _, IsV.stb _, IsV.stb _, trivial⟩ ?hs1_1_V7 ?hlast_1_V7
  case hs1_1_V7 =>
    refine ⟨?_, ?_, ?_, ?_, ?_, ?_, ?_, ?_, ?_, ?_, ?_, ?_, ?_, ?_, ?_, trivial⟩
    · intro K us W hK0 hB hd
      have hK := hid hK0; clear hK0
      have HBW := hid hB
      have hsW := hB.size
      have GB := hid (YW.out.trans (hB.mono YW.out.size))
      clear hd
      simp only [putF]
      rw [hA]
      go_frame
      go_wp2_with fail
      exact hK.out _ _ _ (by rw [hA]; simp only [putF]; kernel_rfl) (Below.refl _ _) rfl
    · intro K us W hK0 hB hd
      have hK := hid hK0; clear hK0
      have HBW := hid hB
      have hsW := hB.size
      have GB := hid (YW.out.trans (hB.mono YW.out.size))
      clear hd
      simp only [putF]
      rw [hA]
      go_frame
      go_wp2_with fail
      exact hK.out _ _ _ (by rw [hA]; simp only [putF]; kernel_rfl) (Below.refl _ _) rfl
    · intro K us W hK0 hB hd
      have hK := hid hK0; clear hK0
      have HBW := hid hB
      have hsW := hB.size
      have GB := hid (YW.out.trans (hB.mono YW.out.size))
      have e1 : us 1 = .pointer (some ⟨w.heap.size, 1, none⟩) := hd ⟨1, Ground.data⟩ (by simp) rfl
      clear hd
      have G0 := hid (heap_still hB YP.out)
      have c0 : W.cell? ⟨w.heap.size, 1, none⟩ = some (.int .i64 x) := (cell_row (j := 1) G0.out).trans rfl
      simp only [putF]
      rw [hA, e1]
      go_frame
      go_wp2_with fail
      exact hK.out _ _ _ (by rw [hA]; simp only [putF]; rw [e1]; kernel_rfl) (Below.refl _ _) rfl
    · intro K us W hK0 hB hd
      have hK := hid hK0; clear hK0
      have HBW := hid hB
      have hsW := hB.size
      have GB := hid (YW.out.trans (hB.mono YW.out.size))
      clear hd
      simp only [putF]
      rw [hA]
      go_frame
      go_wp2_with fail
      exact hK.out _ _ _ (by rw [hA]; simp only [putF]; kernel_rfl) (Below.refl _ _) rfl
    · intro K us W hK0 hB hd
      have hK := hid hK0; clear hK0
      have HBW := hid hB
      have hsW := hB.size
      have GB := hid (YW.out.trans (hB.mono YW.out.size))
      have e2 : us 2 = .int .i64 x := hd ⟨2, Ground.data⟩ (by simp) rfl
      have e3 : us 3 = .int .i64 (L : Int) := hd ⟨3, Ground.data⟩ (by simp) rfl
      clear hd
      simp only [putF]
      rw [hA, e2, e3]
      go_frame
      go_wp2_with fail
      refine (HIX.out W).mono ?_
      rintro r W' ⟨rfl, hb⟩
      go_wp2_with fail
      exact hK.out _ _ _ (by rw [hA]; simp only [putF]; rw [e2, e3]; kernel_rfl) hb rfl
    · intro K us W hK0 hB hd
      have hK := hid hK0; clear hK0
      have HBW := hid hB
      have hsW := hB.size
      have GB := hid (YW.out.trans (hB.mono YW.out.size))
      clear hd
      simp only [putF]
      rw [hA]
      go_frame
      go_wp2_with fail
      exact hK.out _ _ _ (by rw [hA]; simp only [putF]; kernel_rfl) (Below.refl _ _) rfl
    · intro K us W hK0 hB hd
      have hK := hid hK0; clear hK0
      have HBW := hid hB
      have hsW := hB.size
      have GB := hid (YW.out.trans (hB.mono YW.out.size))
      have e5 : us 5 = .pointer (some ⟨w.heap.size, 2, none⟩) := hd ⟨5, Ground.data⟩ (by simp) rfl
      clear hd
      have G0 := hid (heap_still hB YP.out)
      have c0 : W.cell? ⟨w.heap.size, 2, none⟩ = some (.int .i64 y) := (cell_row (j := 2) G0.out).trans rfl
      simp only [putF]
      rw [hA, e5]
      go_frame
      go_wp2_with fail
      exact hK.out _ _ _ (by rw [hA]; simp only [putF]; rw [e5]; kernel_rfl) (Below.refl _ _) rfl
    · intro K us W hK0 hB hd
      have hK := hid hK0; clear hK0
      have HBW := hid hB
      have hsW := hB.size
      have GB := hid (YW.out.trans (hB.mono YW.out.size))
      clear hd
      simp only [putF]
      rw [hA]
      go_frame
      go_wp2_with fail
      exact hK.out _ _ _ (by rw [hA]; simp only [putF]; kernel_rfl) (Below.refl _ _) rfl
    · intro K us W hK0 hB hd
      have hK := hid hK0; clear hK0
      have HBW := hid hB
      have hsW := hB.size
      have GB := hid (YW.out.trans (hB.mono YW.out.size))
      have e6 : us 6 = .int .i64 y := hd ⟨6, Ground.data⟩ (by simp) rfl
      have e7 : us 7 = .int .i64 (L : Int) := hd ⟨7, Ground.data⟩ (by simp) rfl
      clear hd
      simp only [putF]
      rw [hA, e6, e7]
      go_frame
      go_wp2_with fail
      refine (HIY.out W).mono ?_
      rintro r W' ⟨rfl, hb⟩
      go_wp2_with fail
      exact hK.out _ _ _ (by rw [hA]; simp only [putF]; rw [e6, e7]; kernel_rfl) hb rfl
    · intro K us W hK0 hB hd
      have hK := hid hK0; clear hK0
      have HBW := hid hB
      have hsW := hB.size
      have GB := hid (YW.out.trans (hB.mono YW.out.size))
      clear hd
      simp only [putF]
      rw [hA]
      go_frame
      go_wp2_with fail
      exact hK.out _ _ _ (by rw [hA]; simp only [putF]; kernel_rfl) (Below.refl _ _) rfl
    · intro K us W hK0 hB hd
      have hK := hid hK0; clear hK0
      have HBW := hid hB
      have hsW := hB.size
      have GB := hid (YW.out.trans (hB.mono YW.out.size))
      have e9 : us 9 = .pointer (some ⟨w.heap.size, 3, none⟩) := hd ⟨9, Ground.data⟩ (by simp) rfl
      clear hd
      simp only [putF]
      rw [hA, e9]
      go_frame
      go_wp2_with fail
      exact hK.out _ _ _ (by rw [hA]; simp only [putF]; rw [e9]; kernel_rfl) (Below.refl _ _) rfl
    · intro K us W hK0 hB hd
      have hK := hid hK0; clear hK0
      have HBW := hid hB
      have hsW := hB.size
      have GB := hid (YW.out.trans (hB.mono YW.out.size))
      have e10 : us 10 = .pointer (some ⟨w.heap.size, 3, none⟩) := hd ⟨10, Ground.data⟩ (by simp) rfl
      clear hd
      have G0 := hid (heap_still hB YP.out)
      have c0 : W.cell? ⟨w.heap.size, 3, none⟩ = some (.int .i64 zl) := (cell_row (j := 3) G0.out).trans rfl
      simp only [putF]
      rw [hA, e10]
      go_frame
      go_wp2_with fail
      exact hK.out _ _ _ (by rw [hA]; simp only [putF]; rw [e10]; kernel_rfl) (Below.refl _ _) rfl
    · intro K us W hK0 hB hd
      have hK := hid hK0; clear hK0
      have HBW := hid hB
      have hsW := hB.size
      have GB := hid (YW.out.trans (hB.mono YW.out.size))
      clear hd
      simp only [putF]
      rw [hA]
      go_frame
      go_wp2_with fail
      exact hK.out _ _ _ (by rw [hA]; simp only [putF]; kernel_rfl) (Below.refl _ _) rfl
    · intro K us W hK0 hB hd
      have hK := hid hK0; clear hK0
      have HBW := hid hB
      have hsW := hB.size
      have GB := hid (YW.out.trans (hB.mono YW.out.size))
      have e11 : us 11 = .int .i64 zl := hd ⟨11, Ground.data⟩ (by simp) rfl
      have e12 : us 12 = .int .i64 (L : Int) := hd ⟨12, Ground.data⟩ (by simp) rfl
      clear hd
      simp only [putF]
      rw [hA, e11, e12]
      go_frame
      go_wp2_with fail
      refine (HIZ.out W).mono ?_
      rintro r W' ⟨rfl, hb⟩
      go_wp2_with fail
      exact hK.out _ _ _ (by rw [hA]; simp only [putF]; rw [e11, e12]; kernel_rfl) hb rfl
    · intro K us W hK0 hB hd
      have hK := hid hK0; clear hK0
      have HBW := hid hB
      have hsW := hB.size
      have GB := hid (YW.out.trans (hB.mono YW.out.size))
      have e0 : us 0 = .int .i64 (L : Int) := hd ⟨0, Ground.data⟩ (by simp) rfl
      have e4 : us 4 = .int .i64 (idxV x L) := hd ⟨4, Ground.data⟩ (by simp) rfl
      have e8 : us 8 = .int .i64 (idxV y L) := hd ⟨8, Ground.data⟩ (by simp) rfl
      have e13 : us 13 = .int .i64 (idxV zl L) := hd ⟨13, Ground.data⟩ (by simp) rfl
      clear hd
      simp only [putF]
      rw [hA, e0, e4, e8, e13]
      go_frame
      go_wp2_with fail
      exact hK.out _ _ _ (by rw [hA]; simp only [putF]; rw [e0, e4, e8, e13]; kernel_rfl) (Below.refl _ _) rfl
  intro K us V7 hK0 hB hp
  have hK := hid hK0
  clear hK0
  have e14 : us 14 = .agg #[.int .i64 (L : Int), .int .i64 (idxV x L), .int .i64 (idxV y L), .int .i64 (idxV zl L)] := hp 14 (by decide)
  have HBV7 := hid (YW.out.trans (hB.mono YW.out.size))
  have HSV7 := hid (fun n x => @heap_still _ _ n x hB)
  have hzV7 := hB.size
  have hbV7 := hid hB
  clear hp
  simp only [putF]
  rw [hA, e14]
  skip
  go_frame
  go_wp2_with (refine wpList_store_at rfl 109 (.tmp 4) (.tmp 19) rfl rfl rfl (HSV7.out _ _ YK.out) size39 rfl rfl rfl ?_)
  refine hK.out undef _ _ (by rw [hA]; simp only [putF]; rw [e14]; kernel_rfl) ?_
  clear hK hB hA e14
  go_wp2_with fail
  refine bodyPost_ret (results_at1 rfl rfl (setRow_heap _ _ _ _ _ _ (HSV7.out _ _ YK.out)) Try.underlying109 rfl size39 rfl) rfl ⟨rfl, below_setRow HBV7.out (by omega) _⟩
set_option maxRecDepth 100000 in
theorem rCell_any (id x y zl zh wd nm of cl : Int) (L : Nat) (hL : L ≤ 12) (hx : -268435456 ≤ x ∧ x ≤ 268435456) (hy : -268435456 ≤ y ∧ y ≤ 268435456) (hz : -268435456 ≤ zl ∧ zl ≤ 268435456) (w : World) :
    Calls Try.prog 153 #[.agg #[.int .i64 id, .int .i64 x, .int .i64 y, .int .i64 zl, .int .i64 zh, .int .i64 wd, .int .i64 nm, .int .i64 of, .int .i64 cl], .int .i64 L] w fun e w' => e = .returned (.agg (cellC L x y zl)) ∧ Below w.heap.size w w' := by
  have HIX := hid (fun W => step_any x L hL hx W)
  have HIY := hid (fun W => step_any y L hL hy W)
  have HIZ := hid (fun W => step_any zl L hL hz W)
  go_enter Try.func153, Try.ntmps153
  go_wp2_with fail
  refine gen_world (fun V hV => ?_)
  have YP := hid (show V.heap[w.heap.size]? = some (.cells #[.int .i64 id, .int .i64 x, .int .i64 y, .int .i64 zl, .int .i64 zh, .int .i64 wd, .int .i64 nm, .int .i64 of, .int .i64 cl] 78) by rw [hV]; exact heap_alloc_past _ _ _ _ (heap_alloc_at _ _ _ rfl))
  have YK := hid (show V.heap[w.heap.size + 1]? = some (.cells #[.int .i64 0, .int .i64 0, .int .i64 0, .int .i64 0] 109) by rw [hV]; exact heap_alloc_at _ _ _ (by simp))
  have YW := hid (show Below w.heap.size w V by rw [hV]; (repeat' (first | (with_reducible exact Below.refl _ _) | (with_reducible assumption) | (with_reducible refine Below.alloc ?_ ?_ _) | (with_reducible refine Below.drew ?_) | (with_reducible refine below_drewN ?_ _) | (with_reducible refine Below.setCell ?_ ?_ _) | (with_reducible refine below_setRow ?_ ?_ _) | go_size)))
  have YZ : V.heap.size = w.heap.size + 1 + 1 := by rw [hV]; simp
  clear hV
  refine gen_act (fun A0 hA => ?_)
  refine wp_region_last (by kernel_rfl) (by kernel_rfl) [some 5, some 6, some 7, some 8, some 9, some 10, some 11, some 12, some 13, some 14, some 15, some 16, some 17, some 18, some 19, none] rfl (by decide) 15 rfl (by kernel_rfl) (by kernel_rfl)
    [IsV (.int .i64 (L : Int)), IsV (.pointer (some ⟨w.heap.size, 1, none⟩)), IsV (.int .i64 x), IsV (.int .i64 (L : Int)), IsV (.int .i64 (idxV x L)), IsV (.pointer (some ⟨w.heap.size, 2, none⟩)), IsV (.int .i64 y), IsV (.int .i64 (L : Int)), IsV (.int .i64 (idxV y L)), IsV (.pointer (some ⟨w.heap.size, 3, none⟩)), IsV (.pointer (some ⟨w.heap.size, 3, none⟩)), IsV (.int .i64 zl), IsV (.int .i64 (L : Int)), IsV (.int .i64 (idxV zl L)), IsV (.agg #[.int .i64 (L : Int), .int .i64 (idxV x L), .int .i64 (idxV y L), .int .i64 (idxV zl L)])]
    ⟨IsV.stb _, IsV.stb _, IsV.stb _, IsV.stb _, IsV.stb _, IsV.stb _, IsV.stb _, IsV.stb _, IsV.stb _, IsV.stb _, IsV.stb _, IsV.stb _, IsV.stb _, IsV.stb _, IsV.stb _, trivial⟩ ?hs1_1_V7 ?hlast_1_V7
  case hs1_1_V7 =>
    refine ⟨?_, ?_, ?_, ?_, ?_, ?_, ?_, ?_, ?_, ?_, ?_, ?_, ?_, ?_, ?_, trivial⟩
    · intro K us W hK0 hB hd
      have hK := hid hK0; clear hK0
      have HBW := hid hB
      have hsW := hB.size
      have GB := hid (YW.out.trans (hB.mono YW.out.size))
      clear hd
      simp only [putF]
      rw [hA]
      go_frame
      go_wp2_with fail
      exact hK.out _ _ _ (by rw [hA]; simp only [putF]; kernel_rfl) (Below.refl _ _) rfl
    · intro K us W hK0 hB hd
      have hK := hid hK0; clear hK0
      have HBW := hid hB
      have hsW := hB.size
      have GB := hid (YW.out.trans (hB.mono YW.out.size))
      clear hd
      simp only [putF]
      rw [hA]
      go_frame
      go_wp2_with fail
      exact hK.out _ _ _ (by rw [hA]; simp only [putF]; kernel_rfl) (Below.refl _ _) rfl
    · intro K us W hK0 hB hd
      have hK := hid hK0; clear hK0
      have HBW := hid hB
      have hsW := hB.size
      have GB := hid (YW.out.trans (hB.mono YW.out.size))
      have e1 : us 1 = .pointer (some ⟨w.heap.size, 1, none⟩) := hd ⟨1, Ground.data⟩ (by simp) rfl
      clear hd
      have G0 := hid (heap_still hB YP.out)
      have c0 : W.cell? ⟨w.heap.size, 1, none⟩ = some (.int .i64 x) := (cell_row (j := 1) G0.out).trans rfl
      simp only [putF]
      rw [hA, e1]
      go_frame
      go_wp2_with fail
      exact hK.out _ _ _ (by rw [hA]; simp only [putF]; rw [e1]; kernel_rfl) (Below.refl _ _) rfl
    · intro K us W hK0 hB hd
      have hK := hid hK0; clear hK0
      have HBW := hid hB
      have hsW := hB.size
      have GB := hid (YW.out.trans (hB.mono YW.out.size))
      clear hd
      simp only [putF]
      rw [hA]
      go_frame
      go_wp2_with fail
      exact hK.out _ _ _ (by rw [hA]; simp only [putF]; kernel_rfl) (Below.refl _ _) rfl
    · intro K us W hK0 hB hd
      have hK := hid hK0; clear hK0
      have HBW := hid hB
      have hsW := hB.size
      have GB := hid (YW.out.trans (hB.mono YW.out.size))
      have e2 : us 2 = .int .i64 x := hd ⟨2, Ground.data⟩ (by simp) rfl
      have e3 : us 3 = .int .i64 (L : Int) := hd ⟨3, Ground.data⟩ (by simp) rfl
      clear hd
      simp only [putF]
      rw [hA, e2, e3]
      go_frame
      go_wp2_with fail
      refine (HIX.out W).mono ?_
      rintro r W' ⟨rfl, hb⟩
      go_wp2_with fail
      exact hK.out _ _ _ (by rw [hA]; simp only [putF]; rw [e2, e3]; kernel_rfl) hb rfl
    · intro K us W hK0 hB hd
      have hK := hid hK0; clear hK0
      have HBW := hid hB
      have hsW := hB.size
      have GB := hid (YW.out.trans (hB.mono YW.out.size))
      clear hd
      simp only [putF]
      rw [hA]
      go_frame
      go_wp2_with fail
      exact hK.out _ _ _ (by rw [hA]; simp only [putF]; kernel_rfl) (Below.refl _ _) rfl
    · intro K us W hK0 hB hd
      have hK := hid hK0; clear hK0
      have HBW := hid hB
      have hsW := hB.size
      have GB := hid (YW.out.trans (hB.mono YW.out.size))
      have e5 : us 5 = .pointer (some ⟨w.heap.size, 2, none⟩) := hd ⟨5, Ground.data⟩ (by simp) rfl
      clear hd
      have G0 := hid (heap_still hB YP.out)
      have c0 : W.cell? ⟨w.heap.size, 2, none⟩ = some (.int .i64 y) := (cell_row (j := 2) G0.out).trans rfl
      simp only [putF]
      rw [hA, e5]
      go_frame
      go_wp2_with fail
      exact hK.out _ _ _ (by rw [hA]; simp only [putF]; rw [e5]; kernel_rfl) (Below.refl _ _) rfl
    · intro K us W hK0 hB hd
      have hK := hid hK0; clear hK0
      have HBW := hid hB
      have hsW := hB.size
      have GB := hid (YW.out.trans (hB.mono YW.out.size))
      clear hd
      simp only [putF]
      rw [hA]
      go_frame
      go_wp2_with fail
      exact hK.out _ _ _ (by rw [hA]; simp only [putF]; kernel_rfl) (Below.refl _ _) rfl
    · intro K us W hK0 hB hd
      have hK := hid hK0; clear hK0
      have HBW := hid hB
      have hsW := hB.size
      have GB := hid (YW.out.trans (hB.mono YW.out.size))
      have e6 : us 6 = .int .i64 y := hd ⟨6, Ground.data⟩ (by simp) rfl
      have e7 : us 7 = .int .i64 (L : Int) := hd ⟨7, Ground.data⟩ (by simp) rfl
      clear hd
      simp only [putF]
      rw [hA, e6, e7]
      go_frame
      go_wp2_with fail
      refine (HIY.out W).mono ?_
      rintro r W' ⟨rfl, hb⟩
      go_wp2_with fail
      exact hK.out _ _ _ (by rw [hA]; simp only [putF]; rw [e6, e7]; kernel_rfl) hb rfl
    · intro K us W hK0 hB hd
      have hK := hid hK0; clear hK0
      have HBW := hid hB
      have hsW := hB.size
      have GB := hid (YW.out.trans (hB.mono YW.out.size))
      clear hd
      simp only [putF]
      rw [hA]
      go_frame
      go_wp2_with fail
      exact hK.out _ _ _ (by rw [hA]; simp only [putF]; kernel_rfl) (Below.refl _ _) rfl
    · intro K us W hK0 hB hd
      have hK := hid hK0; clear hK0
      have HBW := hid hB
      have hsW := hB.size
      have GB := hid (YW.out.trans (hB.mono YW.out.size))
      have e9 : us 9 = .pointer (some ⟨w.heap.size, 3, none⟩) := hd ⟨9, Ground.data⟩ (by simp) rfl
      clear hd
      simp only [putF]
      rw [hA, e9]
      go_frame
      go_wp2_with fail
      exact hK.out _ _ _ (by rw [hA]; simp only [putF]; rw [e9]; kernel_rfl) (Below.refl _ _) rfl
    · intro K us W hK0 hB hd
      have hK := hid hK0; clear hK0
      have HBW := hid hB
      have hsW := hB.size
      have GB := hid (YW.out.trans (hB.mono YW.out.size))
      have e10 : us 10 = .pointer (some ⟨w.heap.size, 3, none⟩) := hd ⟨10, Ground.data⟩ (by simp) rfl
      clear hd
      have G0 := hid (heap_still hB YP.out)
      have c0 : W.cell? ⟨w.heap.size, 3, none⟩ = some (.int .i64 zl) := (cell_row (j := 3) G0.out).trans rfl
      simp only [putF]
      rw [hA, e10]
      go_frame
      go_wp2_with fail
      exact hK.out _ _ _ (by rw [hA]; simp only [putF]; rw [e10]; kernel_rfl) (Below.refl _ _) rfl
    · intro K us W hK0 hB hd
      have hK := hid hK0; clear hK0
      have HBW := hid hB
      have hsW := hB.size
      have GB := hid (YW.out.trans (hB.mono YW.out.size))
      clear hd
      simp only [putF]
      rw [hA]
      go_frame
      go_wp2_with fail
      exact hK.out _ _ _ (by rw [hA]; simp only [putF]; kernel_rfl) (Below.refl _ _) rfl
    · intro K us W hK0 hB hd
      have hK := hid hK0; clear hK0
      have HBW := hid hB
      have hsW := hB.size
      have GB := hid (YW.out.trans (hB.mono YW.out.size))
      have e11 : us 11 = .int .i64 zl := hd ⟨11, Ground.data⟩ (by simp) rfl
      have e12 : us 12 = .int .i64 (L : Int) := hd ⟨12, Ground.data⟩ (by simp) rfl
      clear hd
      simp only [putF]
      rw [hA, e11, e12]
      go_frame
      go_wp2_with fail
      refine (HIZ.out W).mono ?_
      rintro r W' ⟨rfl, hb⟩
      go_wp2_with fail
      exact hK.out _ _ _ (by rw [hA]; simp only [putF]; rw [e11, e12]; kernel_rfl) hb rfl
    · intro K us W hK0 hB hd
      have hK := hid hK0; clear hK0
      have HBW := hid hB
      have hsW := hB.size
      have GB := hid (YW.out.trans (hB.mono YW.out.size))
      have e0 : us 0 = .int .i64 (L : Int) := hd ⟨0, Ground.data⟩ (by simp) rfl
      have e4 : us 4 = .int .i64 (idxV x L) := hd ⟨4, Ground.data⟩ (by simp) rfl
      have e8 : us 8 = .int .i64 (idxV y L) := hd ⟨8, Ground.data⟩ (by simp) rfl
      have e13 : us 13 = .int .i64 (idxV zl L) := hd ⟨13, Ground.data⟩ (by simp) rfl
      clear hd
      simp only [putF]
      rw [hA, e0, e4, e8, e13]
      go_frame
      go_wp2_with fail
      exact hK.out _ _ _ (by rw [hA]; simp only [putF]; rw [e0, e4, e8, e13]; kernel_rfl) (Below.refl _ _) rfl
  intro K us V7 hK0 hB hp
  have hK := hid hK0
  clear hK0
  have e14 : us 14 = .agg #[.int .i64 (L : Int), .int .i64 (idxV x L), .int .i64 (idxV y L), .int .i64 (idxV zl L)] := hp 14 (by decide)
  have HBV7 := hid (YW.out.trans (hB.mono YW.out.size))
  have HSV7 := hid (fun n x => @heap_still _ _ n x hB)
  have hzV7 := hB.size
  have hbV7 := hid hB
  clear hp
  simp only [putF]
  rw [hA, e14]
  skip
  go_frame
  go_wp2_with (refine wpList_store_at rfl 109 (.tmp 4) (.tmp 19) rfl rfl rfl (HSV7.out _ _ YK.out) size39 rfl rfl rfl ?_)
  refine hK.out undef _ _ (by rw [hA]; simp only [putF]; rw [e14]; kernel_rfl) ?_
  clear hK hB hA e14
  go_wp2_with fail
  refine bodyPost_ret (results_at1 rfl rfl (setRow_heap _ _ _ _ _ _ (HSV7.out _ _ YK.out)) Try.underlying109 rfl size39 rfl) rfl ⟨rfl, below_setRow HBV7.out (by omega) _⟩
end Go.Proofs.Ytpablkmdpoombaa
namespace Go.Proofs.Ytpablkmdpoombaa
open Go.RowKit

theorem powL_bd {L : Int} (h : 0 ≤ L ∧ L ≤ 12) : 1 ≤ powL L ∧ powL L ≤ 4096 := by
  obtain ⟨l, rfl⟩ := Int.eq_ofNat_of_zero_le h.1
  match l, h.2 with
  | 0, _ | 1, _ | 2, _ | 3, _ | 4, _ | 5, _ | 6, _ | 7, _ | 8, _ | 9, _ | 10, _ | 11, _ | 12, _ => decide
  | l + 13, h => omega
theorem shl_u {L : Int} (h : 0 ≤ L ∧ L ≤ 12) : binOp .shl 3 (.int .i64 1) (.int .u64 L) = pure (.int .i64 (powL L)) := by
  obtain ⟨l, rfl⟩ := Int.eq_ofNat_of_zero_le h.1
  match l, h.2 with
  | 0, _ | 1, _ | 2, _ | 3, _ | 4, _ | 5, _ | 6, _ | 7, _ | 8, _ | 9, _ | 10, _ | 11, _ | 12, _ => rfl
  | l + 13, h => omega
theorem shl_i {L : Int} (h : 0 ≤ L ∧ L ≤ 12) : binOp .shl 3 (.int .i64 1) (.int .i64 L) = pure (.int .i64 (powL L)) := by
  obtain ⟨l, rfl⟩ := Int.eq_ofNat_of_zero_le h.1
  match l, h.2 with
  | 0, _ | 1, _ | 2, _ | 3, _ | 4, _ | 5, _ | 6, _ | 7, _ | 8, _ | 9, _ | 10, _ | 11, _ | 12, _ => rfl
  | l + 13, h => omega
theorem keyB_bad {L x y z : Int} (h : ¬ (0 ≤ L ∧ L ≤ 12)) : keyB L x y z = false := by
  unfold keyB
  rw [show inB 0 12 L = false by simp [inB]; omega]
  rfl
theorem index3_0 (a b c : Int) (w : World) : (Instr.index 39 (.agg #[.int .i64 a, .int .i64 b, .int .i64 c]) (.int .i64 0)).run Try.prog w = .ok (.int .i64 a) w := by kernel_rfl
theorem index3_1 (a b c : Int) (w : World) : (Instr.index 39 (.agg #[.int .i64 a, .int .i64 b, .int .i64 c]) (.int .i64 1)).run Try.prog w = .ok (.int .i64 b) w := by kernel_rfl
theorem index3_2 (a b c : Int) (w : World) : (Instr.index 39 (.agg #[.int .i64 a, .int .i64 b, .int .i64 c]) (.int .i64 2)).run Try.prog w = .ok (.int .i64 c) w := by kernel_rfl
set_option maxRecDepth 100000 in
theorem xKey_any (L x y z : Int) (w : World) :
    Calls Try.prog 149 #[.agg #[.int .i64 L, .int .i64 x, .int .i64 y, .int .i64 z]] w fun e w' => e = .returned (.bool (keyB L x y z)) ∧ Below w.heap.size w w' := by
  by_cases hL : 0 ≤ L ∧ L ≤ 12
  · have hsh := shl_u hL
    have hpb := powL_bd hL
    obtain ⟨p, hp⟩ : ∃ p, p = powL L := ⟨_, rfl⟩
    rw [← hp] at hsh hpb
    have HPP := hid hp
    clear hp
    have hi0 := index3_0 x y z
    have hi1 := index3_1 x y z
    have hi2 := index3_2 x y z
    go_enter Try.func149, Try.ntmps149
    go_wp2_with fail
    refine wp_loop_rounds 4 ?_
    rw [rounds_succ]
    by_cases lx : x < 0
    · have HV := hid (show keyB L x y z = false by unfold keyB; rw [show inB 0 (powL L - 1) x = false by simp [inB]; omega]; simp)
      go_wp2_with fail
      go_ret
      exact ⟨by rw [HV.out]; rfl, by (repeat' (first | (with_reducible exact Below.refl _ _) | (with_reducible assumption) | (with_reducible refine Below.alloc ?_ ?_ _) | (with_reducible refine Below.drew ?_) | (with_reducible refine below_drewN ?_ _) | (with_reducible refine Below.setCell ?_ ?_ _) | (with_reducible refine below_setRow ?_ ?_ _) | go_size))⟩
    by_cases gx : p ≤ x
    · have HV := hid (show keyB L x y z = false by unfold keyB; rw [show inB 0 (powL L - 1) x = false by have := HPP.out; simp [inB]; omega]; simp)
      go_wp2_with fail
      go_ret
      exact ⟨by rw [HV.out]; rfl, by (repeat' (first | (with_reducible exact Below.refl _ _) | (with_reducible assumption) | (with_reducible refine Below.alloc ?_ ?_ _) | (with_reducible refine Below.drew ?_) | (with_reducible refine below_drewN ?_ _) | (with_reducible refine Below.setCell ?_ ?_ _) | (with_reducible refine below_setRow ?_ ?_ _) | go_size))⟩
    go_wp2_with fail
    rw [rounds_succ]
    by_cases ly : y < 0
    · have HV := hid (show keyB L x y z = false by unfold keyB; rw [show inB 0 (powL L - 1) y = false by simp [inB]; omega]; simp)
      go_wp2_with fail
      go_ret
      exact ⟨by rw [HV.out]; rfl, by (repeat' (first | (with_reducible exact Below.refl _ _) | (with_reducible assumption) | (with_reducible refine Below.alloc ?_ ?_ _) | (with_reducible refine Below.drew ?_) | (with_reducible refine below_drewN ?_ _) | (with_reducible refine Below.setCell ?_ ?_ _) | (with_reducible refine below_setRow ?_ ?_ _) | go_size))⟩
    by_cases gy : p ≤ y
    · have HV := hid (show keyB L x y z = false by unfold keyB; rw [show inB 0 (powL L - 1) y = false by have := HPP.out; simp [inB]; omega]; simp)
      go_wp2_with fail
      go_ret
      exact ⟨by rw [HV.out]; rfl, by (repeat' (first | (with_reducible exact Below.refl _ _) | (with_reducible assumption) | (with_reducible refine Below.alloc ?_ ?_ _) | (with_reducible refine Below.drew ?_) | (with_reducible refine below_drewN ?_ _) | (with_reducible refine Below.setCell ?_ ?_ _) | (with_reducible refine below_setRow ?_ ?_ _) | go_size))⟩
    go_wp2_with fail
    rw [rounds_succ]
    by_cases lz : z < 0
    · have HV := hid (show keyB L x y z = false by unfold keyB; rw [show inB 0 (powL L - 1) z = false by simp [inB]; omega]; simp)
      go_wp2_with fail
      go_ret
      exact ⟨by rw [HV.out]; rfl, by (repeat' (first | (with_reducible exact Below.refl _ _) | (with_reducible assumption) | (with_reducible refine Below.alloc ?_ ?_ _) | (with_reducible refine Below.drew ?_) | (with_reducible refine below_drewN ?_ _) | (with_reducible refine Below.setCell ?_ ?_ _) | (with_reducible refine below_setRow ?_ ?_ _) | go_size))⟩
    by_cases gz : p ≤ z
    · have HV := hid (show keyB L x y z = false by unfold keyB; rw [show inB 0 (powL L - 1) z = false by have := HPP.out; simp [inB]; omega]; simp)
      go_wp2_with fail
      go_ret
      exact ⟨by rw [HV.out]; rfl, by (repeat' (first | (with_reducible exact Below.refl _ _) | (with_reducible assumption) | (with_reducible refine Below.alloc ?_ ?_ _) | (with_reducible refine Below.drew ?_) | (with_reducible refine below_drewN ?_ _) | (with_reducible refine Below.setCell ?_ ?_ _) | (with_reducible refine below_setRow ?_ ?_ _) | go_size))⟩
    go_wp2_with fail
    rw [rounds_succ]
    have HV := hid (show keyB L x y z = true by have := HPP.out; unfold keyB; simp [inB]; omega)
    go_wp2_with fail
    go_ret
    exact ⟨by rw [HV.out]; rfl, by (repeat' (first | (with_reducible exact Below.refl _ _) | (with_reducible assumption) | (with_reducible refine Below.alloc ?_ ?_ _) | (with_reducible refine Below.drew ?_) | (with_reducible refine below_drewN ?_ _) | (with_reducible refine Below.setCell ?_ ?_ _) | (with_reducible refine below_setRow ?_ ?_ _) | go_size))⟩
  · have HV := hid (keyB_bad (x := x) (y := y) (z := z) hL)
    by_cases h0 : L < 0
    · go_enter Try.func149, Try.ntmps149
      go_wp2_with fail
      go_ret
      exact ⟨by rw [HV.out]; rfl, by (repeat' (first | (with_reducible exact Below.refl _ _) | (with_reducible assumption) | (with_reducible refine Below.alloc ?_ ?_ _) | (with_reducible refine Below.drew ?_) | (with_reducible refine below_drewN ?_ _) | (with_reducible refine Below.setCell ?_ ?_ _) | (with_reducible refine below_setRow ?_ ?_ _) | go_size))⟩
    · have h1 : 12 < L := by omega
      go_enter Try.func149, Try.ntmps149
      go_wp2_with fail
      go_ret
      exact ⟨by rw [HV.out]; rfl, by (repeat' (first | (with_reducible exact Below.refl _ _) | (with_reducible assumption) | (with_reducible refine Below.alloc ?_ ?_ _) | (with_reducible refine Below.drew ?_) | (with_reducible refine below_drewN ?_ _) | (with_reducible refine Below.setCell ?_ ?_ _) | (with_reducible refine below_setRow ?_ ?_ _) | go_size))⟩
set_option maxRecDepth 100000 in
theorem rKey_any (L x y z : Int) (w : World) :
    Calls Try.prog 152 #[.agg #[.int .i64 L, .int .i64 x, .int .i64 y, .int .i64 z]] w fun e w' => e = .returned (.bool (keyB L x y z)) ∧ Below w.heap.size w w' := by
  by_cases hL : 0 ≤ L ∧ L ≤ 12
  · have hsh := shl_i hL
    have HV := hid (keyB_good (x := x) (y := y) (z := z) hL)
    have hpb := powL_bd hL
    have hin : inB 0 12 L = true := by simp [inB]; omega
    have HIN := hid hin; clear hin
    generalize powL L = p at *
    obtain ⟨m, rfl⟩ : ∃ m, p = m + 1 := ⟨p - 1, by omega⟩
    simp only [Int.add_sub_cancel] at HV
    go_enter Try.func152, Try.ntmps152
    go_wp2_with fail
    refine (from_any _ _ _ _).mono ?_
    rintro r w1 ⟨rfl, rfl⟩
    rw [HIN.out]
    go_wp2_with fail
    by_cases h1 : inB 0 m x = true
    · by_cases h2 : inB 0 m y = true
      · have HS := hid (show keyB L x y z = inB 0 m z by simp [HV.out, h1, h2])
        have H1 := hid h1
        have H2 := hid h2
        clear h1 h2
        go_wp2_with fail
        refine (from_any _ _ _ _).mono ?_
        rintro r w1 ⟨rfl, rfl⟩
        rw [H1.out]
        go_wp2_with fail
        refine (from_any _ _ _ _).mono ?_
        rintro r w1 ⟨rfl, rfl⟩
        rw [H2.out]
        go_wp2_with fail
        refine (from_any _ _ _ _).mono ?_
        rintro r w1 ⟨rfl, rfl⟩
        go_wp2_with fail
        go_ret
        refine ⟨by rw [HS.out]; rfl, ?_⟩
        (try have hB0 := HB.out)
        (repeat' (first | (with_reducible exact Below.refl _ _) | (with_reducible assumption) | (with_reducible refine Below.alloc ?_ ?_ _) | (with_reducible refine Below.drew ?_) | (with_reducible refine below_drewN ?_ _) | (with_reducible refine Below.setCell ?_ ?_ _) | (with_reducible refine below_setRow ?_ ?_ _) | go_size))
      · have HS := hid (show keyB L x y z = false by simp [HV.out, h1, h2])
        have H1 := hid h1
        have H2 := hid (Bool.eq_false_iff.2 h2)
        clear h1 h2
        go_wp2_with fail
        refine (from_any _ _ _ _).mono ?_
        rintro r w1 ⟨rfl, rfl⟩
        rw [H1.out]
        go_wp2_with fail
        refine (from_any _ _ _ _).mono ?_
        rintro r w1 ⟨rfl, rfl⟩
        rw [H2.out]
        go_wp2_with fail
        go_ret
        refine ⟨by rw [HS.out]; rfl, ?_⟩
        (try have hB0 := HB.out)
        (repeat' (first | (with_reducible exact Below.refl _ _) | (with_reducible assumption) | (with_reducible refine Below.alloc ?_ ?_ _) | (with_reducible refine Below.drew ?_) | (with_reducible refine below_drewN ?_ _) | (with_reducible refine Below.setCell ?_ ?_ _) | (with_reducible refine below_setRow ?_ ?_ _) | go_size))
    · have HS := hid (show keyB L x y z = false by simp [HV.out, h1])
      have H1 := hid (Bool.eq_false_iff.2 h1)
      clear h1
      go_wp2_with fail
      refine (from_any _ _ _ _).mono ?_
      rintro r w1 ⟨rfl, rfl⟩
      rw [H1.out]
      go_wp2_with fail
      go_ret
      refine ⟨by rw [HS.out]; rfl, ?_⟩
      (try have hB0 := HB.out)
      (repeat' (first | (with_reducible exact Below.refl _ _) | (with_reducible assumption) | (with_reducible refine Below.alloc ?_ ?_ _) | (with_reducible refine Below.drew ?_) | (with_reducible refine below_drewN ?_ _) | (with_reducible refine Below.setCell ?_ ?_ _) | (with_reducible refine below_setRow ?_ ?_ _) | go_size))
  · have HV := hid (keyB_bad (x := x) (y := y) (z := z) hL)
    have hin : inB 0 12 L = false := by simp [inB]; omega
    have HIN := hid hin; clear hin
    go_enter Try.func152, Try.ntmps152
    go_wp2_with fail
    refine (from_any _ _ _ _).mono ?_
    rintro r w1 ⟨rfl, rfl⟩
    rw [HIN.out]
    go_wp2_with fail
    go_ret
    exact ⟨by rw [HV.out]; rfl, by (repeat' (first | (with_reducible exact Below.refl _ _) | (with_reducible assumption) | (with_reducible refine Below.alloc ?_ ?_ _) | (with_reducible refine Below.drew ?_) | (with_reducible refine below_drewN ?_ _) | (with_reducible refine Below.setCell ?_ ?_ _) | (with_reducible refine below_setRow ?_ ?_ _) | go_size))⟩
end Go.Proofs.Ytpablkmdpoombaa
namespace Go.Proofs.Ytpablkmdpoombaa
open Go.RowKit

theorem keyB_yes {L x y z : Int} (h : keyB L x y z = true) : (0 ≤ L ∧ L ≤ 12) ∧ (0 ≤ x ∧ x < 4096) ∧ (0 ≤ y ∧ y < 4096) ∧ (0 ≤ z ∧ z < 4096) := by
  unfold keyB at h
  simp [inB] at h
  have := powL_bd (L := L) (by omega)
  omega
end Go.Proofs.Ytpablkmdpoombaa
namespace Go.Proofs.Ytpablkmdpoombaa
open Go.RowKit

end Go.Proofs.Ytpablkmdpoombaa
namespace Go.Proofs.Ytpablkmdpoombaa
open Go.RowKit

end Go.Proofs.Ytpablkmdpoombaa

/- LayM -/
namespace Go.Proofs.Ytpablkmdpoombaa
open Go.RowKit

end Go.Proofs.Ytpablkmdpoombaa
namespace Go.Proofs.Ytpablkmdpoombaa
open Go.RowKit

end Go.Proofs.Ytpablkmdpoombaa

/- SortF -/
namespace Go.Proofs.Ytpablkmdpoombaa
open Go.RowKit Go.Sort Go.Lib Go.Shelf Go.Proofs

section
variable {α : Type} [Inhabited α] {enc : α → List Value} {k : Nat}
end
end Go.Proofs.Ytpablkmdpoombaa
namespace Go.Proofs.Ytpablkmdpoombaa
open Go.Shelf
end Go.Proofs.Ytpablkmdpoombaa
namespace Go.Proofs.Ytpablkmdpoombaa
open Go.RowKit Go.Sort Go.Lib Go.Shelf Go.Proofs

/-- the comparison of keys -/
def cmpK (a b : Ky) : Int := if a.L = b.L then (if a.x = b.x then (if a.y = b.y then (if a.z = b.z then 0 else a.z - b.z) else a.y - b.y) else a.x - b.x) else a.L - b.L
theorem idx160_0 (a b c d e f g h : Int) (w : World) : (Instr.index 177 (.agg #[.int .i64 a, .int .i64 b, .int .i64 c, .int .i64 d, .int .i64 e, .int .i64 f, .int .i64 g, .int .i64 h]) (.int .i64 0)).run Try.prog w = .ok (.agg #[.int .i64 a, .int .i64 b]) w := by kernel_rfl
theorem idx160_1 (a b c d e f g h : Int) (w : World) : (Instr.index 177 (.agg #[.int .i64 a, .int .i64 b, .int .i64 c, .int .i64 d, .int .i64 e, .int .i64 f, .int .i64 g, .int .i64 h]) (.int .i64 1)).run Try.prog w = .ok (.agg #[.int .i64 c, .int .i64 d]) w := by kernel_rfl
theorem idx160_2 (a b c d e f g h : Int) (w : World) : (Instr.index 177 (.agg #[.int .i64 a, .int .i64 b, .int .i64 c, .int .i64 d, .int .i64 e, .int .i64 f, .int .i64 g, .int .i64 h]) (.int .i64 2)).run Try.prog w = .ok (.agg #[.int .i64 e, .int .i64 f]) w := by kernel_rfl
theorem idx160_3 (a b c d e f g h : Int) (w : World) : (Instr.index 177 (.agg #[.int .i64 a, .int .i64 b, .int .i64 c, .int .i64 d, .int .i64 e, .int .i64 f, .int .i64 g, .int .i64 h]) (.int .i64 3)).run Try.prog w = .ok (.agg #[.int .i64 g, .int .i64 h]) w := by kernel_rfl
theorem cmpK_lt (a b : Ky) : cmpK a b < 0 ↔ a.lt b := by
  unfold cmpK Ky.lt
  by_cases h1 : a.L = b.L
  · rw [if_pos h1]
    by_cases h2 : a.x = b.x
    · rw [if_pos h2]
      by_cases h3 : a.y = b.y
      · rw [if_pos h3]
        by_cases h4 : a.z = b.z
        · rw [if_pos h4]; omega
        · rw [if_neg h4]; omega
      · rw [if_neg h3]; omega
    · rw [if_neg h2]; omega
  · rw [if_neg h1]; omega
end Go.Proofs.Ytpablkmdpoombaa

/- LayX -/
namespace Go.Proofs.Ytpablkmdpoombaa
open Go.RowKit Go.Maps

end Go.Proofs.Ytpablkmdpoombaa
namespace Go.Proofs.Ytpablkmdpoombaa
open Go.RowKit Go.Maps

theorem grew_below {W X : World} (h : Grew W X) : Below W.heap.size W X := by
  obtain ⟨q, os, rfl⟩ := h
  refine ⟨rfl, rfl, rfl, ?_, fun k hk => ?_⟩
  · rw [Sort.size_grow]; exact Nat.le_add_right _ _
  · show (W.heap ++ os)[k]? = _
    rw [Array.getElem?_append_left hk]
section
variable {W W' : World} {base t sz : Nat} {v : Value} {l : List (List Value)}
end
end Go.Proofs.Ytpablkmdpoombaa
namespace Go.Proofs.Ytpablkmdpoombaa
open Go.RowKit Go.Maps

end Go.Proofs.Ytpablkmdpoombaa
namespace Go.Proofs.Ytpablkmdpoombaa
open Go.RowKit Go.Maps

end Go.Proofs.Ytpablkmdpoombaa
namespace Go.Proofs.Ytpablkmdpoombaa
open Go.RowKit Go.Maps

end Go.Proofs.Ytpablkmdpoombaa
namespace Go.Proofs.Ytpablkmdpoombaa
open Go.RowKit Go.Maps Go.Sort

end Go.Proofs.Ytpablkmdpoombaa
namespace Go.Proofs.Ytpablkmdpoombaa
open Go.RowKit Go.Maps

end Go.Proofs.Ytpablkmdpoombaa

/- RSort -/
namespace Go.Proofs.Ytpablkmdpoombaa
open Go.RowKit

section
variable {W0 W1 W2 W : World} {s1 s2 : Nat} {ps : List Nat} {vs : List Value} {L : Nat → Bool} {us : Nat → Value} {v : Value}
end

end Go.Proofs.Ytpablkmdpoombaa
namespace Go.Proofs.Ytpablkmdpoombaa
open Go.RowKit

section
variable {α : Type}
end
end Go.Proofs.Ytpablkmdpoombaa
namespace Go.Proofs.Ytpablkmdpoombaa
open Go.ChangeShapes Go.WideShapes Go.ChangeAt Go.RowKit Go.Deep

section
variable {H : Type} {enc : TypeId × Value → H} {P : Program} {w : World} {base : Nat} {spare : Nat → Bool} {held : Bool}

theorem cells49 : Try.prog.cellsOf 111 = 5 := by kernel_rfl
/-- a tile that an argument holds -/
structure TeIn (w : World) (e : Te) : Prop where
  pts : PtsV w e.v e.pts
  nil : NilV e.v
  len : e.pts.length ≤ maxLen
  key : (Lit.int .i64 e.key.L).wf = true ∧ (Lit.int .i64 e.key.x).wf = true ∧ (Lit.int .i64 e.key.y).wf = true ∧ (Lit.int .i64 e.key.z).wf = true
set_option maxRecDepth 100000 in
theorem open_tiles {r : Reach} {b0 : Nat} {v : Value} {d : DataW H} {p : List MemPlace} (hv : Value.okWide Try.prog w r b0 68 v) (h : DataW.Trod enc Try.prog w base spare held 68 v d p) :
    ∃ E : List Te, TilesV w v E ∧ NilV v ∧ E.length ≤ maxLen ∧ ∀ e ∈ E, TeIn w e := by
  obtain ⟨a0, len, cap, rfl⟩ := Go.WideShapes.okWide_slice Try.underlying68 hv
  obtain ⟨fuel, hx⟩ := h
  rcases open_slice Try.underlying68 hx with ⟨h0, _⟩ | ⟨a, len', cap', m, n, D, Pl, h1, hb, hl, hm, hmm, _, hall⟩
  · simp [Value.cells] at h0
    obtain ⟨rfl, rfl, rfl⟩ := h0
    exact ⟨[], ⟨⟨none, 0, rfl, Or.inl rfl⟩, fun e he => by simp at he⟩, nilV_zero, by simp, fun e he => by simp at he⟩
  · simp [Value.cells] at h1
    obtain ⟨rfl, rfl, rfl⟩ := h1
    have hnv : NilV (.slice (some a) len cap) := nilV_some _ _ _
    by_cases h0 : len = 0
    · subst h0
      exact ⟨[], ⟨⟨_, _, rfl, Or.inl rfl⟩, fun e he => by simp at he⟩, hnv, by simp, fun e he => by simp at he⟩
    have hle : len ≤ m := by rw [hmm]; split <;> omega
    rw [cells49] at hall
    obtain ⟨E, h1, h2⟩ := list_of (R := fun i (e : Te) => TeIn w e ∧ ∀ j, j < 5 → w.cell? ((a.add (i * 5)).add j) = e.row[j]?) len (fun i hi => by
      obtain ⟨cs, hc, ht⟩ := hall i (by omega)
      obtain ⟨_, hlen, hcell⟩ := World.cells?_some hc
      obtain ⟨e, rfl, h5, h6, h7, h8⟩ := tile_cells hlen ht
      exact ⟨e, ⟨h5, h6, h7, h8⟩, hcell⟩)
    subst h1
    obtain ⟨b, off, spot⟩ := a
    have hpos : 0 < E.length := by omega
    have hspot : spot = none := by
      have h0 := (h2 0 _ (List.getElem?_eq_getElem hpos)).2 0 (by omega)
      exact (by simpa [Addr.add] using World.cell?_spot (v := .int .i64 (E[0]).key.L) (h0.trans rfl))
    subst hspot
    have hr : RowsAt w b off 5 (E.map Te.row) := fun i r hi j hj => by
      rw [List.getElem?_map] at hi
      obtain ⟨e, he, rfl⟩ := Option.map_eq_some_iff.1 hi
      rw [← (h2 i e he).2 j hj, ← Go.WideShapes.add_plain, ← Go.WideShapes.add_plain]
    have hb : b < w.heap.size := by
      have h0 := hr 0 (E[0]).row (by simp [List.getElem?_map, List.getElem?_eq_getElem hpos]) 0 (by omega)
      exact cell_lt (h0.trans rfl)
    have hall' : ∀ e ∈ E, TeIn w e := fun e he => by
      obtain ⟨i, hi, rfl⟩ := List.mem_iff_getElem.1 he
      exact (h2 i _ (List.getElem?_eq_getElem hi)).1
    exact ⟨E, ⟨⟨_, _, rfl, Or.inr ⟨b, off, rfl, hb, hr⟩⟩, fun e he => (hall' e he).pts⟩, hnv, by omega, hall'⟩
end
end Go.Proofs.Ytpablkmdpoombaa
namespace Go.Proofs.Ytpablkmdpoombaa
open Go.RowKit Go.Sort

end Go.Proofs.Ytpablkmdpoombaa

/- RLay -/
namespace Go.Proofs.Ytpablkmdpoombaa
open Go.RowKit Go.Sort

end Go.Proofs.Ytpablkmdpoombaa
namespace Go.Proofs.Ytpablkmdpoombaa
open Go.RowKit Go.Sort

end Go.Proofs.Ytpablkmdpoombaa
namespace Go.Proofs.Ytpablkmdpoombaa
open Go.RowKit Go.Sort

theorem flat39t : flatOf Try.prog 10 109 = some [some .i64, some .i64, some .i64, some .i64] := by kernel_rfl
theorem sameT_four (a b c d e f g h : Int) : sameL [.int .i64 a, .int .i64 b, .int .i64 c, .int .i64 d] [.int .i64 e, .int .i64 f, .int .i64 g, .int .i64 h] = (decide (a = e) && (decide (b = f) && (decide (c = g) && decide (d = h)))) := by
  simp only [sameL, sameV, Bool.and_true]
  congr 1
set_option maxRecDepth 100000 in
theorem eqKeys (a b : Ky) (r : Bool) (hr : r = decide (a = b)) (W : World) : (Op.equalIn 10000 109 (.agg #[.int .i64 a.L, .int .i64 a.x, .int .i64 a.y, .int .i64 a.z]) (.agg #[.int .i64 b.L, .int .i64 b.x, .int .i64 b.y, .int .i64 b.z])).run Try.prog W = .ok r W := by
  have h := equal_struct Try.underlying109 (flat39t) [.int .i64 a.L, .int .i64 a.x, .int .i64 a.y, .int .i64 a.z] [.int .i64 b.L, .int .i64 b.x, .int .i64 b.y, .int .i64 b.z] rfl rfl W
  refine h.trans ?_
  rw [sameT_four, hr]
  congr 1
  rw [Bool.eq_iff_iff]
  simp only [Bool.and_eq_true, decide_eq_true_eq]
  constructor
  · rintro ⟨h0, h1, h2, h3⟩
    exact Ky.ext' h0 h1 h2 h3
  · intro h
    subst h
    exact ⟨rfl, rfl, rfl, rfl⟩
end Go.Proofs.Ytpablkmdpoombaa
namespace Go.Proofs.Ytpablkmdpoombaa
open Go.RowKit Go.Sort

theorem size136 : (Try.prog.info? 35).map (·.size) = some 4 := by kernel_rfl
set_option maxRecDepth 100000 in
set_option maxHeartbeats 1600000 in
theorem before_any (a b : Ky) (w : World) : Calls Try.prog 130 #[.agg a.row.toArray, .agg b.row.toArray] w fun r w' => r = .returned (.bool (decide (a.lt b))) ∧ Below w.heap.size w w' := by
  obtain ⟨aL, ax, ay, az⟩ := a
  obtain ⟨bL, bx, b_y, bz⟩ := b
  have HV := hid (show Ky.lt ⟨aL, ax, ay, az⟩ ⟨bL, bx, b_y, bz⟩ ↔ (aL < bL ∨ (aL = bL ∧ (ax < bx ∨ (ax = bx ∧ (ay < b_y ∨ (ay = b_y ∧ az < bz)))))) from Iff.rfl)
  simp only [Ky.row]
  generalize hr : decide (Ky.lt ⟨aL, ax, ay, az⟩ ⟨bL, bx, b_y, bz⟩) = r
  have HR := hid hr
  clear hr
  go_enter Try.func130, Try.ntmps130
  go_upto_region 1 with fail
  refine gen_world (fun W0 hW => ?_)
  have HB0 := hid (show Below w.heap.size w W0 by rw [hW]; (repeat' (first | (with_reducible exact Below.refl _ _) | (with_reducible assumption) | (with_reducible refine Below.alloc ?_ ?_ _) | (with_reducible refine Below.drew ?_) | (with_reducible refine below_drewN ?_ _) | (with_reducible refine Below.setCell ?_ ?_ _) | (with_reducible refine below_setRow ?_ ?_ _) | go_size)))
  have AK := hid (show W0.heap[w.heap.size]? = some (.cells #[.int .i64 aL, .int .i64 ax, .int .i64 ay, .int .i64 az] 109) by rw [hW]; exact (by repeat' (first | (refine heap_alloc_at _ _ _ ?_; (first | rfl | (simp; done) | (simp; omega))) | (refine heap_alloc_past _ _ _ _ ?_))))
  have BK := hid (show W0.heap[w.heap.size + 1]? = some (.cells #[.int .i64 bL, .int .i64 bx, .int .i64 b_y, .int .i64 bz] 109) by rw [hW]; exact (by repeat' (first | (refine heap_alloc_at _ _ _ ?_; (first | rfl | (simp; done) | (simp; omega))) | (refine heap_alloc_past _ _ _ _ ?_))))
  clear hW
  refine gen_act (fun A0 hA => ?_)
  refine wp_region_by (by kernel_rfl) (by kernel_rfl) [some 8, some 9, some 10, some 11, some 12, some 13, some 14, some 15, some 16, some 17, some 18, some 19, some 20, some 21, some 22, some 23, some 24, some 25, some 5, some 6, none, none] rfl (by decide) (BoxR W0 18 2 (fun j => [.pointer (some ⟨w.heap.size, 0, none⟩), .int .i64 aL, .pointer (some ⟨w.heap.size, 1, none⟩), .int .i64 ax, .pointer (some ⟨w.heap.size, 2, none⟩), .int .i64 ay, .pointer (some ⟨w.heap.size, 3, none⟩), .int .i64 az, .agg #[.int .i64 aL, .int .i64 ax, .int .i64 ay, .int .i64 az], .pointer (some ⟨w.heap.size + 1, 0, none⟩), .int .i64 bL, .pointer (some ⟨w.heap.size + 1, 1, none⟩), .int .i64 bx, .pointer (some ⟨w.heap.size + 1, 2, none⟩), .int .i64 b_y, .pointer (some ⟨w.heap.size + 1, 3, none⟩), .int .i64 bz, .agg #[.int .i64 bL, .int .i64 bx, .int .i64 b_y, .int .i64 bz]].getD j undef) (fun i => [#[.int .i64 0, .int .i64 0, .int .i64 0, .int .i64 0], #[.int .i64 0, .int .i64 0, .int .i64 0, .int .i64 0]].getD i #[]) (fun i => [#[.int .i64 aL, .int .i64 ax, .int .i64 ay, .int .i64 az], #[.int .i64 bL, .int .i64 bx, .int .i64 b_y, .int .i64 bz]].getD i #[]) (fun i => ([35, 35] : List Nat).getD i 0)) (selfF A0 _) (putF_self A0 _) BoxR.start ?hs1_1_W1 ?hend_1_W1
  case hs1_1_W1 =>
    refine ⟨?_, ?_, ?_, ?_, ?_, ?_, ?_, ?_, ?_, ?_, ?_, ?_, ?_, ?_, ?_, ?_, ?_, ?_, ?_, ?_, ?_, ?_, trivial⟩
    · intro K L us W hK0 hL hd hR
      have hK := hid (fun v A' W' h1 h2 h3 => hK0 v A' W' h1 (hR.pure (k := 0) (by decide) h2 h3)); clear hK0
      (try simp [Region.binds] at hd)
      have hB := hR.grow
      have GB := hid hB
      clear hd hR hB
      simp only [putF]
      rw [hA]
      go_frame
      go_wp2_with fail
      exact hK.out _ _ _ (by rw [hA]; simp only [putF]; kernel_rfl) (Below.refl _ _) rfl
    · intro K L us W hK0 hL hd hR
      have hK := hid (fun v A' W' h1 h2 h3 => hK0 v A' W' h1 (hR.pure (k := 1) (by decide) h2 h3)); clear hK0
      (try simp [Region.binds] at hd)
      have hB := hR.grow
      have GB := hid hB
      have e0 : us 0 = .pointer (some ⟨w.heap.size, 0, none⟩) := hR.vals 0 (by decide) (by first | exact hd | exact hd.1 | exact hd.2.1 | simp_all)
      have G0 := hid (heap_still hB AK.out)
      have c0 : W.cell? ⟨w.heap.size, 0, none⟩ = some (.int .i64 aL) := (cell_row (j := 0) G0.out).trans rfl
      clear hd hR hB
      simp only [putF]
      rw [hA, e0]
      go_frame
      go_wp2_with fail
      exact hK.out _ _ _ (by rw [hA]; simp only [putF]; rw [e0]; kernel_rfl) (Below.refl _ _) rfl
    · intro K L us W hK0 hL hd hR
      have hK := hid (fun v A' W' h1 h2 h3 => hK0 v A' W' h1 (hR.pure (k := 2) (by decide) h2 h3)); clear hK0
      (try simp [Region.binds] at hd)
      have hB := hR.grow
      have GB := hid hB
      clear hd hR hB
      simp only [putF]
      rw [hA]
      go_frame
      go_wp2_with fail
      exact hK.out _ _ _ (by rw [hA]; simp only [putF]; kernel_rfl) (Below.refl _ _) rfl
    · intro K L us W hK0 hL hd hR
      have hK := hid (fun v A' W' h1 h2 h3 => hK0 v A' W' h1 (hR.pure (k := 3) (by decide) h2 h3)); clear hK0
      (try simp [Region.binds] at hd)
      have hB := hR.grow
      have GB := hid hB
      have e2 : us 2 = .pointer (some ⟨w.heap.size, 1, none⟩) := hR.vals 2 (by decide) (by first | exact hd | exact hd.1 | exact hd.2.1 | simp_all)
      have G0 := hid (heap_still hB AK.out)
      have c0 : W.cell? ⟨w.heap.size, 1, none⟩ = some (.int .i64 ax) := (cell_row (j := 1) G0.out).trans rfl
      clear hd hR hB
      simp only [putF]
      rw [hA, e2]
      go_frame
      go_wp2_with fail
      exact hK.out _ _ _ (by rw [hA]; simp only [putF]; rw [e2]; kernel_rfl) (Below.refl _ _) rfl
    · intro K L us W hK0 hL hd hR
      have hK := hid (fun v A' W' h1 h2 h3 => hK0 v A' W' h1 (hR.pure (k := 4) (by decide) h2 h3)); clear hK0
      (try simp [Region.binds] at hd)
      have hB := hR.grow
      have GB := hid hB
      clear hd hR hB
      simp only [putF]
      rw [hA]
      go_frame
      go_wp2_with fail
      exact hK.out _ _ _ (by rw [hA]; simp only [putF]; kernel_rfl) (Below.refl _ _) rfl
    · intro K L us W hK0 hL hd hR
      have hK := hid (fun v A' W' h1 h2 h3 => hK0 v A' W' h1 (hR.pure (k := 5) (by decide) h2 h3)); clear hK0
      (try simp [Region.binds] at hd)
      have hB := hR.grow
      have GB := hid hB
      have e4 : us 4 = .pointer (some ⟨w.heap.size, 2, none⟩) := hR.vals 4 (by decide) (by first | exact hd | exact hd.1 | exact hd.2.1 | simp_all)
      have G0 := hid (heap_still hB AK.out)
      have c0 : W.cell? ⟨w.heap.size, 2, none⟩ = some (.int .i64 ay) := (cell_row (j := 2) G0.out).trans rfl
      clear hd hR hB
      simp only [putF]
      rw [hA, e4]
      go_frame
      go_wp2_with fail
      exact hK.out _ _ _ (by rw [hA]; simp only [putF]; rw [e4]; kernel_rfl) (Below.refl _ _) rfl
    · intro K L us W hK0 hL hd hR
      have hK := hid (fun v A' W' h1 h2 h3 => hK0 v A' W' h1 (hR.pure (k := 6) (by decide) h2 h3)); clear hK0
      (try simp [Region.binds] at hd)
      have hB := hR.grow
      have GB := hid hB
      clear hd hR hB
      simp only [putF]
      rw [hA]
      go_frame
      go_wp2_with fail
      exact hK.out _ _ _ (by rw [hA]; simp only [putF]; kernel_rfl) (Below.refl _ _) rfl
    · intro K L us W hK0 hL hd hR
      have hK := hid (fun v A' W' h1 h2 h3 => hK0 v A' W' h1 (hR.pure (k := 7) (by decide) h2 h3)); clear hK0
      (try simp [Region.binds] at hd)
      have hB := hR.grow
      have GB := hid hB
      have e6 : us 6 = .pointer (some ⟨w.heap.size, 3, none⟩) := hR.vals 6 (by decide) (by first | exact hd | exact hd.1 | exact hd.2.1 | simp_all)
      have G0 := hid (heap_still hB AK.out)
      have c0 : W.cell? ⟨w.heap.size, 3, none⟩ = some (.int .i64 az) := (cell_row (j := 3) G0.out).trans rfl
      clear hd hR hB
      simp only [putF]
      rw [hA, e6]
      go_frame
      go_wp2_with fail
      exact hK.out _ _ _ (by rw [hA]; simp only [putF]; rw [e6]; kernel_rfl) (Below.refl _ _) rfl
    · intro K L us W hK0 hL hd hR
      have hK := hid (fun v A' W' h1 h2 h3 => hK0 v A' W' h1 (hR.pure (k := 8) (by decide) h2 h3)); clear hK0
      (try simp [Region.binds] at hd)
      have hB := hR.grow
      have GB := hid hB
      have e1 : us 1 = .int .i64 aL := hR.vals 1 (by decide) (by first | exact hd | exact hd.1 | exact hd.2.1 | simp_all)
      have e3 : us 3 = .int .i64 ax := hR.vals 3 (by decide) (by first | exact hd | exact hd.1 | exact hd.2.1 | simp_all)
      have e5 : us 5 = .int .i64 ay := hR.vals 5 (by decide) (by first | exact hd | exact hd.1 | exact hd.2.1 | simp_all)
      have e7 : us 7 = .int .i64 az := hR.vals 7 (by decide) (by first | exact hd | exact hd.1 | exact hd.2.1 | simp_all)
      clear hd hR hB
      simp only [putF]
      rw [hA, e1, e3, e5, e7]
      go_frame
      go_wp2_with fail
      exact hK.out _ _ _ (by rw [hA]; simp only [putF]; rw [e1, e3, e5, e7]; kernel_rfl) (Below.refl _ _) rfl
    · intro K L us W hK0 hL hd hR
      have hK := hid (fun v A' W' h1 h2 h3 => hK0 v A' W' h1 (hR.pure (k := 9) (by decide) h2 h3)); clear hK0
      (try simp [Region.binds] at hd)
      have hB := hR.grow
      have GB := hid hB
      clear hd hR hB
      simp only [putF]
      rw [hA]
      go_frame
      go_wp2_with fail
      exact hK.out _ _ _ (by rw [hA]; simp only [putF]; kernel_rfl) (Below.refl _ _) rfl
    · intro K L us W hK0 hL hd hR
      have hK := hid (fun v A' W' h1 h2 h3 => hK0 v A' W' h1 (hR.pure (k := 10) (by decide) h2 h3)); clear hK0
      (try simp [Region.binds] at hd)
      have hB := hR.grow
      have GB := hid hB
      have e9 : us 9 = .pointer (some ⟨w.heap.size + 1, 0, none⟩) := hR.vals 9 (by decide) (by first | exact hd | exact hd.1 | exact hd.2.1 | simp_all)
      have G0 := hid (heap_still hB BK.out)
      have c0 : W.cell? ⟨w.heap.size + 1, 0, none⟩ = some (.int .i64 bL) := (cell_row (j := 0) G0.out).trans rfl
      clear hd hR hB
      simp only [putF]
      rw [hA, e9]
      go_frame
      go_wp2_with fail
      exact hK.out _ _ _ (by rw [hA]; simp only [putF]; rw [e9]; kernel_rfl) (Below.refl _ _) rfl
    · intro K L us W hK0 hL hd hR
      have hK := hid (fun v A' W' h1 h2 h3 => hK0 v A' W' h1 (hR.pure (k := 11) (by decide) h2 h3)); clear hK0
      (try simp [Region.binds] at hd)
      have hB := hR.grow
      have GB := hid hB
      clear hd hR hB
      simp only [putF]
      rw [hA]
      go_frame
      go_wp2_with fail
      exact hK.out _ _ _ (by rw [hA]; simp only [putF]; kernel_rfl) (Below.refl _ _) rfl
    · intro K L us W hK0 hL hd hR
      have hK := hid (fun v A' W' h1 h2 h3 => hK0 v A' W' h1 (hR.pure (k := 12) (by decide) h2 h3)); clear hK0
      (try simp [Region.binds] at hd)
      have hB := hR.grow
      have GB := hid hB
      have e11 : us 11 = .pointer (some ⟨w.heap.size + 1, 1, none⟩) := hR.vals 11 (by decide) (by first | exact hd | exact hd.1 | exact hd.2.1 | simp_all)
      have G0 := hid (heap_still hB BK.out)
      have c0 : W.cell? ⟨w.heap.size + 1, 1, none⟩ = some (.int .i64 bx) := (cell_row (j := 1) G0.out).trans rfl
      clear hd hR hB
      simp only [putF]
      rw [hA, e11]
      go_frame
      go_wp2_with fail
      exact hK.out _ _ _ (by rw [hA]; simp only [putF]; rw [e11]; kernel_rfl) (Below.refl _ _) rfl
    · intro K L us W hK0 hL hd hR
      have hK := hid (fun v A' W' h1 h2 h3 => hK0 v A' W' h1 (hR.pure (k := 13) (by decide) h2 h3)); clear hK0
      (try simp [Region.binds] at hd)
      have hB := hR.grow
      have GB := hid hB
      clear hd hR hB
      simp only [putF]
      rw [hA]
      go_frame
      go_wp2_with fail
      exact hK.out _ _ _ (by rw [hA]; simp only [putF]; kernel_rfl) (Below.refl _ _) rfl
    · intro K L us W hK0 hL hd hR
      have hK := hid (fun v A' W' h1 h2 h3 => hK0 v A' W' h1 (hR.pure (k := 14) (by decide) h2 h3)); clear hK0
      (try simp [Region.binds] at hd)
      have hB := hR.grow
      have GB := hid hB
      have e13 : us 13 = .pointer (some ⟨w.heap.size + 1, 2, none⟩) := hR.vals 13 (by decide) (by first | exact hd | exact hd.1 | exact hd.2.1 | simp_all)
      have G0 := hid (heap_still hB BK.out)
      have c0 : W.cell? ⟨w.heap.size + 1, 2, none⟩ = some (.int .i64 b_y) := (cell_row (j := 2) G0.out).trans rfl
      clear hd hR hB
      simp only [putF]
      rw [hA, e13]
      go_frame
      go_wp2_with fail
      exact hK.out _ _ _ (by rw [hA]; simp only [putF]; rw [e13]; kernel_rfl) (Below.refl _ _) rfl
    · intro K L us W hK0 hL hd hR
      have hK := hid (fun v A' W' h1 h2 h3 => hK0 v A' W' h1 (hR.pure (k := 15) (by decide) h2 h3)); clear hK0
      (try simp [Region.binds] at hd)
      have hB := hR.grow
      have GB := hid hB
      clear hd hR hB
      simp only [putF]
      rw [hA]
      go_frame
      go_wp2_with fail
      exact hK.out _ _ _ (by rw [hA]; simp only [putF]; kernel_rfl) (Below.refl _ _) rfl
    · intro K L us W hK0 hL hd hR
      have hK := hid (fun v A' W' h1 h2 h3 => hK0 v A' W' h1 (hR.pure (k := 16) (by decide) h2 h3)); clear hK0
      (try simp [Region.binds] at hd)
      have hB := hR.grow
      have GB := hid hB
      have e15 : us 15 = .pointer (some ⟨w.heap.size + 1, 3, none⟩) := hR.vals 15 (by decide) (by first | exact hd | exact hd.1 | exact hd.2.1 | simp_all)
      have G0 := hid (heap_still hB BK.out)
      have c0 : W.cell? ⟨w.heap.size + 1, 3, none⟩ = some (.int .i64 bz) := (cell_row (j := 3) G0.out).trans rfl
      clear hd hR hB
      simp only [putF]
      rw [hA, e15]
      go_frame
      go_wp2_with fail
      exact hK.out _ _ _ (by rw [hA]; simp only [putF]; rw [e15]; kernel_rfl) (Below.refl _ _) rfl
    · intro K L us W hK0 hL hd hR
      have hK := hid (fun v A' W' h1 h2 h3 => hK0 v A' W' h1 (hR.pure (k := 17) (by decide) h2 h3)); clear hK0
      (try simp [Region.binds] at hd)
      have hB := hR.grow
      have GB := hid hB
      have e10 : us 10 = .int .i64 bL := hR.vals 10 (by decide) (by first | exact hd | exact hd.1 | exact hd.2.1 | simp_all)
      have e12 : us 12 = .int .i64 bx := hR.vals 12 (by decide) (by first | exact hd | exact hd.1 | exact hd.2.1 | simp_all)
      have e14 : us 14 = .int .i64 b_y := hR.vals 14 (by decide) (by first | exact hd | exact hd.1 | exact hd.2.1 | simp_all)
      have e16 : us 16 = .int .i64 bz := hR.vals 16 (by decide) (by first | exact hd | exact hd.1 | exact hd.2.1 | simp_all)
      clear hd hR hB
      simp only [putF]
      rw [hA, e10, e12, e14, e16]
      go_frame
      go_wp2_with fail
      exact hK.out _ _ _ (by rw [hA]; simp only [putF]; rw [e10, e12, e14, e16]; kernel_rfl) (Below.refl _ _) rfl
    · intro K L us W hK0 hL hd hR
      have hK := hid hK0; clear hK0
      have hR2 := hid (hR.alloc (i := 0) (by decide) hL)
      clear hd hR
      simp only [putF]
      rw [hA]
      go_frame
      go_wp2_with fail
      exact hK.out (.pointer (some ⟨W.heap.size, 0, none⟩)) _ _ (by rw [hA]; kernel_rfl) hR2.out
    · intro K L us W hK0 hL hd hR
      have hK := hid hK0; clear hK0
      have hR2 := hid (hR.alloc (i := 1) (by decide) hL)
      clear hd hR
      simp only [putF]
      rw [hA]
      go_frame
      go_wp2_with fail
      exact hK.out (.pointer (some ⟨W.heap.size, 0, none⟩)) _ _ (by rw [hA]; kernel_rfl) hR2.out
    · intro K L us W hK0 hL hd hR
      have hK := hid hK0; clear hK0
      (try simp [Region.binds] at hd)
      have hla : L 18 = true := by first | exact hd.1 | exact hd | exact hd.2.1 | simp_all
      have hls : L 8 = true := by first | exact hd.2.1 | exact hd.2 | exact hd.1 | simp_all
      obtain ⟨gbx, e0, hg, hh⟩ := hR.box 0 (by decide) hla
      have hL2 : L (18 + 2 + 0) = false := hL
      rw [hL2, if_neg (by decide)] at hh
      have e1 : us 8 = .agg #[.int .i64 aL, .int .i64 ax, .int .i64 ay, .int .i64 az] := hR.vals 8 (by decide) hls
      have hR2 := hid (hR.store (i := 0) (v := undef) (by decide) hla e0 hg hh)
      have hh2 : W.heap[gbx]? = some (.cells #[.int .i64 0, .int .i64 0, .int .i64 0, .int .i64 0] 35) := hh
      have e2 : us 18 = .pointer (some ⟨gbx, 0, none⟩) := e0
      have HH := hid hh2
      clear hd hR hh e0 hL2
      simp only [putF]
      rw [hA, e2, e1]
      go_frame
      go_wp2_with (refine wpList_store_at rfl 35 (.tmp 5) (.tmp 16) rfl rfl rfl HH.out size136 rfl rfl rfl ?_)
      exact hK.out undef _ _ (by rw [hA]; simp only [putF]; rw [e2, e1]; kernel_rfl) hR2.out
    · intro K L us W hK0 hL hd hR
      have hK := hid hK0; clear hK0
      (try simp [Region.binds] at hd)
      have hla : L 19 = true := by first | exact hd.1 | exact hd | exact hd.2.1 | simp_all
      have hls : L 17 = true := by first | exact hd.2.1 | exact hd.2 | exact hd.1 | simp_all
      obtain ⟨gbx, e0, hg, hh⟩ := hR.box 1 (by decide) hla
      have hL2 : L (18 + 2 + 1) = false := hL
      rw [hL2, if_neg (by decide)] at hh
      have e1 : us 17 = .agg #[.int .i64 bL, .int .i64 bx, .int .i64 b_y, .int .i64 bz] := hR.vals 17 (by decide) hls
      have hR2 := hid (hR.store (i := 1) (v := undef) (by decide) hla e0 hg hh)
      have hh2 : W.heap[gbx]? = some (.cells #[.int .i64 0, .int .i64 0, .int .i64 0, .int .i64 0] 35) := hh
      have e2 : us 19 = .pointer (some ⟨gbx, 0, none⟩) := e0
      have HH := hid hh2
      clear hd hR hh e0 hL2
      simp only [putF]
      rw [hA, e2, e1]
      go_frame
      go_wp2_with (refine wpList_store_at rfl 35 (.tmp 6) (.tmp 25) rfl rfl rfl HH.out size136 rfl rfl rfl ?_)
      exact hK.out undef _ _ (by rw [hA]; simp only [putF]; rw [e2, e1]; kernel_rfl) hR2.out
  intro L us W1 hL hR
  obtain ⟨g5, e5, hg5, hh5⟩ := hR.box 0 (by decide) (hL _ (by decide))
  rw [if_pos (hL _ (by decide))] at hh5
  have HH5 := hid (show W1.heap[g5]? = some (.cells #[.int .i64 aL, .int .i64 ax, .int .i64 ay, .int .i64 az] 35) from hh5)
  have e5 : us 18 = .pointer (some ⟨g5, 0, none⟩) := e5
  obtain ⟨g6, e6, hg6, hh6⟩ := hR.box 1 (by decide) (hL _ (by decide))
  rw [if_pos (hL _ (by decide))] at hh6
  have HH6 := hid (show W1.heap[g6]? = some (.cells #[.int .i64 bL, .int .i64 bx, .int .i64 b_y, .int .i64 bz] 35) from hh6)
  have e6 : us 19 = .pointer (some ⟨g6, 0, none⟩) := e6
  have hne5_6 : g5 ≠ g6 := fun h => hR.ne 0 1 (by decide) (by decide) (by decide) (hL _ (by decide)) (hL _ (by decide)) (by rw [show us (18 + 0) = _ from e5, show us (18 + 1) = _ from e6, h])
  have HB1 := hid (HB0.out.trans (hR.grow.mono HB0.out.size))
  have HSW1 := hid (fun n x => @heap_still _ _ n x hR.grow)
  have hzW1 := hR.grow.size
  simp only [putF]
  rw [hA, e5, e6]
  clear hA hR hL hh5 e5 hh6 e6
  go_frame
  go_wp2_with fail
  refine wp_loop_rounds 5 ?_
  rw [rounds_succ]
  by_cases hne : aL ≠ bL
  · have d1 : (aL == bL) = false := by simpa using hne
    have a0 := fun d os => cell_regrown (show W1.cell? ⟨g5, 0, none⟩ = some (.int .i64 aL) from (cell_row (j := 0) HH5.out).trans rfl) d os
    have b0 := fun d os => cell_regrown (show W1.cell? ⟨g6, 0, none⟩ = some (.int .i64 bL) from (cell_row (j := 0) HH6.out).trans rfl) d os
    go_wp2_with fail
    refine wp_region_quiet_below (by kernel_rfl) (by kernel_rfl) ?_
    repeat (first | go_big_quiet_step (fail) | quiet_step (fail))
    refine wpQuiet_nil ?_
    intro _ hw'
    obtain ⟨⟨dqV, osV⟩, hw2⟩ := hw'
    subst hw2
    have HQV := hid (below_regrown W1 dqV osV)
    generalize Sort.grow (redrawn W1 dqV) osV = V at HQV ⊢
    have hsV := HQV.out.size
    clear a0 b0
    have AV := hid (heap_still HQV.out HH5.out)
    have BV := hid (heap_still HQV.out HH6.out)
    have HBV := hid (HB1.out.trans (HQV.out.mono HB1.out.size))
    have a0 := fun d os => cell_regrown (show V.cell? ⟨g5, 0, none⟩ = some (.int .i64 aL) from (cell_row (j := 0) AV.out).trans rfl) d os
    have b0 := fun d os => cell_regrown (show V.cell? ⟨g6, 0, none⟩ = some (.int .i64 bL) from (cell_row (j := 0) BV.out).trans rfl) d os
    go_wp2_with fail
    refine wp_region_quiet_below (by kernel_rfl) (by kernel_rfl) ?_
    repeat (first | go_big_quiet_step (fail) | quiet_step (fail))
    refine wpQuiet_nil ?_
    intro _ hw'
    obtain ⟨⟨dqU, osU⟩, hw2⟩ := hw'
    subst hw2
    have HQU := hid (below_regrown V dqU osU)
    generalize Sort.grow (redrawn V dqU) osU = U at HQU ⊢
    have hsU := HQU.out.size
    have HBU := hid (HBV.out.trans (HQU.out.mono HBV.out.size))
    clear a0 b0
    go_wp2_with fail
    go_ret
    exact ⟨by rw [show r = decide (aL < bL) from HR.out.symm.trans (decide_eq_decide.2 (HV.out.trans (by omega)))]; rfl, HBU.out⟩
  have heq0 : aL = bL := Decidable.not_not.1 hne
  clear hne
  have d1 : (aL == bL) = true := by simp [heq0]
  have a0 := fun d os => cell_regrown (show W1.cell? ⟨g5, 0, none⟩ = some (.int .i64 aL) from (cell_row (j := 0) HH5.out).trans rfl) d os
  have b0 := fun d os => cell_regrown (show W1.cell? ⟨g6, 0, none⟩ = some (.int .i64 bL) from (cell_row (j := 0) HH6.out).trans rfl) d os
  go_wp2_with fail
  refine wp_region_quiet_below (by kernel_rfl) (by kernel_rfl) ?_
  repeat (first | go_big_quiet_step (fail) | quiet_step (fail))
  refine wpQuiet_nil ?_
  intro _ hw'
  obtain ⟨⟨dqV0, osV0⟩, hw2⟩ := hw'
  subst hw2
  have HQV0 := hid (below_regrown W1 dqV0 osV0)
  generalize Sort.grow (redrawn W1 dqV0) osV0 = V0 at HQV0 ⊢
  have hsV0 := HQV0.out.size
  clear a0 b0 d1
  have AV0 := hid (heap_still HQV0.out HH5.out)
  have BV0 := hid (heap_still HQV0.out HH6.out)
  have HBV0 := hid (HB1.out.trans (HQV0.out.mono HB1.out.size))
  go_wp2_with fail
  rw [rounds_succ]
  by_cases hne : ax ≠ bx
  · have d1 : (ax == bx) = false := by simpa using hne
    have a1 := fun d os => cell_regrown (show V0.cell? ⟨g5, 1, none⟩ = some (.int .i64 ax) from (cell_row (j := 1) AV0.out).trans rfl) d os
    have b1 := fun d os => cell_regrown (show V0.cell? ⟨g6, 1, none⟩ = some (.int .i64 bx) from (cell_row (j := 1) BV0.out).trans rfl) d os
    go_wp2_with fail
    refine wp_region_quiet_below (by kernel_rfl) (by kernel_rfl) ?_
    repeat (first | go_big_quiet_step (fail) | quiet_step (fail))
    refine wpQuiet_nil ?_
    intro _ hw'
    obtain ⟨⟨dqV, osV⟩, hw2⟩ := hw'
    subst hw2
    have HQV := hid (below_regrown V0 dqV osV)
    generalize Sort.grow (redrawn V0 dqV) osV = V at HQV ⊢
    have hsV := HQV.out.size
    clear a1 b1
    have AV := hid (heap_still HQV.out AV0.out)
    have BV := hid (heap_still HQV.out BV0.out)
    have HBV := hid (HBV0.out.trans (HQV.out.mono HBV0.out.size))
    have a1 := fun d os => cell_regrown (show V.cell? ⟨g5, 1, none⟩ = some (.int .i64 ax) from (cell_row (j := 1) AV.out).trans rfl) d os
    have b1 := fun d os => cell_regrown (show V.cell? ⟨g6, 1, none⟩ = some (.int .i64 bx) from (cell_row (j := 1) BV.out).trans rfl) d os
    go_wp2_with fail
    refine wp_region_quiet_below (by kernel_rfl) (by kernel_rfl) ?_
    repeat (first | go_big_quiet_step (fail) | quiet_step (fail))
    refine wpQuiet_nil ?_
    intro _ hw'
    obtain ⟨⟨dqU, osU⟩, hw2⟩ := hw'
    subst hw2
    have HQU := hid (below_regrown V dqU osU)
    generalize Sort.grow (redrawn V dqU) osU = U at HQU ⊢
    have hsU := HQU.out.size
    have HBU := hid (HBV.out.trans (HQU.out.mono HBV.out.size))
    clear a1 b1
    go_wp2_with fail
    go_ret
    exact ⟨by rw [show r = decide (ax < bx) from HR.out.symm.trans (decide_eq_decide.2 (HV.out.trans (by omega)))]; rfl, HBU.out⟩
  have heq1 : ax = bx := Decidable.not_not.1 hne
  clear hne
  have d1 : (ax == bx) = true := by simp [heq1]
  have a1 := fun d os => cell_regrown (show V0.cell? ⟨g5, 1, none⟩ = some (.int .i64 ax) from (cell_row (j := 1) AV0.out).trans rfl) d os
  have b1 := fun d os => cell_regrown (show V0.cell? ⟨g6, 1, none⟩ = some (.int .i64 bx) from (cell_row (j := 1) BV0.out).trans rfl) d os
  go_wp2_with fail
  refine wp_region_quiet_below (by kernel_rfl) (by kernel_rfl) ?_
  repeat (first | go_big_quiet_step (fail) | quiet_step (fail))
  refine wpQuiet_nil ?_
  intro _ hw'
  obtain ⟨⟨dqV1, osV1⟩, hw2⟩ := hw'
  subst hw2
  have HQV1 := hid (below_regrown V0 dqV1 osV1)
  generalize Sort.grow (redrawn V0 dqV1) osV1 = V1 at HQV1 ⊢
  have hsV1 := HQV1.out.size
  clear a1 b1 d1
  have AV1 := hid (heap_still HQV1.out AV0.out)
  have BV1 := hid (heap_still HQV1.out BV0.out)
  have HBV1 := hid (HBV0.out.trans (HQV1.out.mono HBV0.out.size))
  go_wp2_with fail
  rw [rounds_succ]
  by_cases hne : ay ≠ b_y
  · have d1 : (ay == b_y) = false := by simpa using hne
    have a2 := fun d os => cell_regrown (show V1.cell? ⟨g5, 2, none⟩ = some (.int .i64 ay) from (cell_row (j := 2) AV1.out).trans rfl) d os
    have b2 := fun d os => cell_regrown (show V1.cell? ⟨g6, 2, none⟩ = some (.int .i64 b_y) from (cell_row (j := 2) BV1.out).trans rfl) d os
    go_wp2_with fail
    refine wp_region_quiet_below (by kernel_rfl) (by kernel_rfl) ?_
    repeat (first | go_big_quiet_step (fail) | quiet_step (fail))
    refine wpQuiet_nil ?_
    intro _ hw'
    obtain ⟨⟨dqV, osV⟩, hw2⟩ := hw'
    subst hw2
    have HQV := hid (below_regrown V1 dqV osV)
    generalize Sort.grow (redrawn V1 dqV) osV = V at HQV ⊢
    have hsV := HQV.out.size
    clear a2 b2
    have AV := hid (heap_still HQV.out AV1.out)
    have BV := hid (heap_still HQV.out BV1.out)
    have HBV := hid (HBV1.out.trans (HQV.out.mono HBV1.out.size))
    have a2 := fun d os => cell_regrown (show V.cell? ⟨g5, 2, none⟩ = some (.int .i64 ay) from (cell_row (j := 2) AV.out).trans rfl) d os
    have b2 := fun d os => cell_regrown (show V.cell? ⟨g6, 2, none⟩ = some (.int .i64 b_y) from (cell_row (j := 2) BV.out).trans rfl) d os
    go_wp2_with fail
    refine wp_region_quiet_below (by kernel_rfl) (by kernel_rfl) ?_
    repeat (first | go_big_quiet_step (fail) | quiet_step (fail))
    refine wpQuiet_nil ?_
    intro _ hw'
    obtain ⟨⟨dqU, osU⟩, hw2⟩ := hw'
    subst hw2
    have HQU := hid (below_regrown V dqU osU)
    generalize Sort.grow (redrawn V dqU) osU = U at HQU ⊢
    have hsU := HQU.out.size
    have HBU := hid (HBV.out.trans (HQU.out.mono HBV.out.size))
    clear a2 b2
    go_wp2_with fail
    go_ret
    exact ⟨by rw [show r = decide (ay < b_y) from HR.out.symm.trans (decide_eq_decide.2 (HV.out.trans (by omega)))]; rfl, HBU.out⟩
  have heq2 : ay = b_y := Decidable.not_not.1 hne
  clear hne
  have d1 : (ay == b_y) = true := by simp [heq2]
  have a2 := fun d os => cell_regrown (show V1.cell? ⟨g5, 2, none⟩ = some (.int .i64 ay) from (cell_row (j := 2) AV1.out).trans rfl) d os
  have b2 := fun d os => cell_regrown (show V1.cell? ⟨g6, 2, none⟩ = some (.int .i64 b_y) from (cell_row (j := 2) BV1.out).trans rfl) d os
  go_wp2_with fail
  refine wp_region_quiet_below (by kernel_rfl) (by kernel_rfl) ?_
  repeat (first | go_big_quiet_step (fail) | quiet_step (fail))
  refine wpQuiet_nil ?_
  intro _ hw'
  obtain ⟨⟨dqV2, osV2⟩, hw2⟩ := hw'
  subst hw2
  have HQV2 := hid (below_regrown V1 dqV2 osV2)
  generalize Sort.grow (redrawn V1 dqV2) osV2 = V2 at HQV2 ⊢
  have hsV2 := HQV2.out.size
  clear a2 b2 d1
  have AV2 := hid (heap_still HQV2.out AV1.out)
  have BV2 := hid (heap_still HQV2.out BV1.out)
  have HBV2 := hid (HBV1.out.trans (HQV2.out.mono HBV1.out.size))
  go_wp2_with fail
  rw [rounds_succ]
  by_cases hne : az ≠ bz
  · have d1 : (az == bz) = false := by simpa using hne
    have a3 := fun d os => cell_regrown (show V2.cell? ⟨g5, 3, none⟩ = some (.int .i64 az) from (cell_row (j := 3) AV2.out).trans rfl) d os
    have b3 := fun d os => cell_regrown (show V2.cell? ⟨g6, 3, none⟩ = some (.int .i64 bz) from (cell_row (j := 3) BV2.out).trans rfl) d os
    go_wp2_with fail
    refine wp_region_quiet_below (by kernel_rfl) (by kernel_rfl) ?_
    repeat (first | go_big_quiet_step (fail) | quiet_step (fail))
    refine wpQuiet_nil ?_
    intro _ hw'
    obtain ⟨⟨dqV, osV⟩, hw2⟩ := hw'
    subst hw2
    have HQV := hid (below_regrown V2 dqV osV)
    generalize Sort.grow (redrawn V2 dqV) osV = V at HQV ⊢
    have hsV := HQV.out.size
    clear a3 b3
    have AV := hid (heap_still HQV.out AV2.out)
    have BV := hid (heap_still HQV.out BV2.out)
    have HBV := hid (HBV2.out.trans (HQV.out.mono HBV2.out.size))
    have a3 := fun d os => cell_regrown (show V.cell? ⟨g5, 3, none⟩ = some (.int .i64 az) from (cell_row (j := 3) AV.out).trans rfl) d os
    have b3 := fun d os => cell_regrown (show V.cell? ⟨g6, 3, none⟩ = some (.int .i64 bz) from (cell_row (j := 3) BV.out).trans rfl) d os
    go_wp2_with fail
    refine wp_region_quiet_below (by kernel_rfl) (by kernel_rfl) ?_
    repeat (first | go_big_quiet_step (fail) | quiet_step (fail))
    refine wpQuiet_nil ?_
    intro _ hw'
    obtain ⟨⟨dqU, osU⟩, hw2⟩ := hw'
    subst hw2
    have HQU := hid (below_regrown V dqU osU)
    generalize Sort.grow (redrawn V dqU) osU = U at HQU ⊢
    have hsU := HQU.out.size
    have HBU := hid (HBV.out.trans (HQU.out.mono HBV.out.size))
    clear a3 b3
    go_wp2_with fail
    go_ret
    exact ⟨by rw [show r = decide (az < bz) from HR.out.symm.trans (decide_eq_decide.2 (HV.out.trans (by omega)))]; rfl, HBU.out⟩
  have heq3 : az = bz := Decidable.not_not.1 hne
  clear hne
  have d1 : (az == bz) = true := by simp [heq3]
  have a3 := fun d os => cell_regrown (show V2.cell? ⟨g5, 3, none⟩ = some (.int .i64 az) from (cell_row (j := 3) AV2.out).trans rfl) d os
  have b3 := fun d os => cell_regrown (show V2.cell? ⟨g6, 3, none⟩ = some (.int .i64 bz) from (cell_row (j := 3) BV2.out).trans rfl) d os
  go_wp2_with fail
  refine wp_region_quiet_below (by kernel_rfl) (by kernel_rfl) ?_
  repeat (first | go_big_quiet_step (fail) | quiet_step (fail))
  refine wpQuiet_nil ?_
  intro _ hw'
  obtain ⟨⟨dqV3, osV3⟩, hw2⟩ := hw'
  subst hw2
  have HQV3 := hid (below_regrown V2 dqV3 osV3)
  generalize Sort.grow (redrawn V2 dqV3) osV3 = V3 at HQV3 ⊢
  have hsV3 := HQV3.out.size
  clear a3 b3 d1
  have AV3 := hid (heap_still HQV3.out AV2.out)
  have BV3 := hid (heap_still HQV3.out BV2.out)
  have HBV3 := hid (HBV2.out.trans (HQV3.out.mono HBV2.out.size))
  go_wp2_with fail
  rw [rounds_succ]
  go_wp2_with fail
  go_ret
  exact ⟨by rw [show r = false from HR.out.symm.trans (decide_eq_false (fun h => by have := HV.out.1 h; omega))]; rfl, HBV3.out⟩
end Go.Proofs.Ytpablkmdpoombaa
namespace Go.Proofs.Ytpablkmdpoombaa
open Go.RowKit Go.Sort

end Go.Proofs.Ytpablkmdpoombaa
namespace Go.Proofs.Ytpablkmdpoombaa
open Go.RowKit Go.Sort

end Go.Proofs.Ytpablkmdpoombaa
namespace Go.Proofs.Ytpablkmdpoombaa
open Go.RowKit

end Go.Proofs.Ytpablkmdpoombaa

/- TileM -/
namespace Go.Proofs.Ytpablkmdpoombaa
open Go.RowKit

theorem mem_take {α : Type} {E : List α} {i : Nat} {a : α} (h : a ∈ E.take i) : ∃ j, j < i ∧ E[j]? = some a := by
  obtain ⟨j, hj', e⟩ := List.mem_iff_getElem.1 h
  have hj := hj'
  rw [List.length_take, Nat.lt_min] at hj
  rw [List.getElem_take] at e
  exact ⟨j, hj.1, by rw [List.getElem?_eq_getElem hj.2, e]⟩
theorem pw_next {α : Type} {r : α → α → Prop} (tr : ∀ a b c, r a b → r b c → r a c) {E : List α} {i : Nat} {x : α} (h : (E.take i).Pairwise r) (hx : E[i]? = some x)
    (hp : ∀ a, 0 < i → E[i - 1]? = some a → r a x) : (E.take (i + 1)).Pairwise r := by
  rw [take_next hx, List.pairwise_append]
  refine ⟨h, List.pairwise_singleton _ _, fun a ha b hb => ?_⟩
  obtain rfl := List.mem_singleton.1 hb
  obtain ⟨j, hj, ej⟩ := mem_take ha
  have hlen := (List.getElem?_eq_some_iff.1 hx).1
  by_cases he : j = i - 1
  · subst he; exact hp a (by omega) ej
  · have h2 := List.pairwise_iff_getElem.1 h j (i - 1) (by simp; omega) (by simp; omega) (by omega)
    simp only [List.getElem_take] at h2
    have e1 : E[j] = a := by have := ej; rw [List.getElem?_eq_getElem (by omega)] at this; exact Option.some.inj this
    rw [e1] at h2
    exact tr _ _ _ h2 (hp _ (by omega) (List.getElem?_eq_getElem (by omega)))
theorem pw_not {α : Type} {r : α → α → Prop} {E : List α} {i j : Nat} {a b : α} (hij : i < j) (hi : E[i]? = some a) (hj : E[j]? = some b) (hn : ¬ r a b) : ¬ E.Pairwise r := fun h => by
  obtain ⟨h1, rfl⟩ := List.getElem?_eq_some_iff.1 hi
  obtain ⟨h2, rfl⟩ := List.getElem?_eq_some_iff.1 hj
  exact hn (List.pairwise_iff_getElem.1 h i j h1 h2 hij)
theorem TlsOk.next {T : List Tl} {i : Nat} {t : Tl} (h : TlsOk (T.take i)) (ht : T[i]? = some t) (hok : TlOk t) (ho : ∀ a, 0 < i → T[i - 1]? = some a → a.key.lt t.key)
    (hd : ∀ j a, j < i → T[j]? = some a → ∀ p ∈ a.pts, ∀ q ∈ t.pts, p.id ≠ q.id) : TlsOk (T.take (i + 1)) := by
  refine ⟨?_, pw_next (r := fun a b : Tl => a.key.lt b.key) (fun a b c => Ky.lt_trans) h.order ht ho, ?_⟩
  · rw [take_next ht]
    intro u hu
    rcases List.mem_append.1 hu with g | g
    · exact h.all u g
    · obtain rfl := List.mem_singleton.1 g; exact hok
  · rw [take_next ht, List.pairwise_append]
    refine ⟨h.apart, List.pairwise_singleton _ _, fun a ha b hb => ?_⟩
    obtain rfl := List.mem_singleton.1 hb
    obtain ⟨j, hj, e⟩ := mem_take ha
    exact hd j a hj e
theorem TlsOk.not_ok {T : List Tl} {i : Nat} {t : Tl} (ht : T[i]? = some t) (h : ¬ TlOk t) : ¬ TlsOk T := fun g => h (g.all t (List.mem_of_getElem? ht))
theorem TlsOk.not_order {T : List Tl} {i : Nat} {t a : Tl} (h0 : 0 < i) (ha : T[i - 1]? = some a) (ht : T[i]? = some t) (h : ¬ a.key.lt t.key) : ¬ TlsOk T := fun g => pw_not (show i - 1 < i by omega) ha ht h g.order
theorem TlsOk.not_apart {T : List Tl} {i j : Nat} {t a : Tl} {p q : Pt} (hj : j < i) (ha : T[j]? = some a) (ht : T[i]? = some t) (hp : p ∈ a.pts) (hq : q ∈ t.pts) (h : p.id = q.id) : ¬ TlsOk T := fun g =>
  pw_not hj ha ht (fun k => k p hp q hq h) g.apart
theorem StepOk.next {k : Ky} {P : List Pt} {i : Nat} {p : Pt} (h : StepOk k P i) (hp : P[i]? = some p) (hc : cellK k.L.toNat p = k) (ha : ∀ q, 0 < i → P[i - 1]? = some q → q.id < p.id) : StepOk k P (i + 1) := by
  refine ⟨pw_next (fun a b c h1 h2 => by omega) h.asc hp ha, ?_⟩
  rw [take_next hp]
  intro u hu
  rcases List.mem_append.1 hu with g | g
  · exact h.cell u g
  · obtain rfl := List.mem_singleton.1 g; exact hc
theorem TlOk.not_cell {t : Tl} {i : Nat} {p : Pt} (hp : t.pts[i]? = some p) (h : cellK t.key.L.toNat p ≠ t.key) : ¬ TlOk t := fun g => h (g.cell p (List.mem_of_getElem? hp))
theorem TlOk.not_asc {t : Tl} {i : Nat} {p q : Pt} (h0 : 0 < i) (hq : t.pts[i - 1]? = some q) (hp : t.pts[i]? = some p) (h : ¬ q.id < p.id) : ¬ TlOk t := fun g => pw_not (show i - 1 < i by omega) hq hp h g.asc
/-- the points of the tiles up to a level -/
def detL (T : List Tl) (lv : Int) : List Pt := (T.filter (fun t => decide (t.key.L ≤ lv))).flatMap Tl.pts
theorem detL_next {T : List Tl} {i : Nat} {t : Tl} (lv : Int) (ht : T[i]? = some t) : detL (T.take (i + 1)) lv = detL (T.take i) lv ++ (if t.key.L ≤ lv then t.pts else []) := by
  unfold detL
  rw [take_next ht, List.filter_append, List.flatMap_append]
  by_cases h : t.key.L ≤ lv
  · simp [h]
  · simp [h]
theorem TlsOk.ids {T : List Tl} (h : TlsOk T) (lv : Int) : (detL T lv).Pairwise (fun p q => p.id ≠ q.id) := by
  unfold detL
  rw [List.flatMap_def, List.pairwise_flatten]
  refine ⟨fun l hl => ?_, ?_⟩
  · obtain ⟨t, ht, rfl⟩ := List.mem_map.1 hl
    exact (h.all t (List.mem_filter.1 ht).1).asc.imp (fun g => by omega)
  · rw [List.pairwise_map]
    exact h.apart.filter _
theorem detL_mem {T : List Tl} {lv : Int} {p : Pt} : p ∈ detL T lv ↔ ∃ t ∈ T, t.key.L ≤ lv ∧ p ∈ t.pts := by
  unfold detL
  rw [List.mem_flatMap]
  constructor
  · rintro ⟨t, h1, h2⟩
    obtain ⟨h3, h4⟩ := List.mem_filter.1 h1
    exact ⟨t, h3, by simpa using h4, h2⟩
  · rintro ⟨t, h1, h2, h3⟩
    exact ⟨t, List.mem_filter.2 ⟨h1, by simpa using h2⟩, h3⟩
/-- what a detail is: the points in ascending order of Id -/
structure IsDet (T : List Tl) (lv : Int) (D : List Pt) : Prop where
  perm : D.Perm (detL T lv)
  asc : D.Pairwise (fun p q => p.id < q.id)
theorem asc_strict {D S : List Pt} (hp : D.Perm S) (hd : S.Pairwise (fun p q => p.id ≠ q.id)) (hs : D.Pairwise (fun p q => ¬ q.id < p.id)) : D.Pairwise (fun p q => p.id < q.id) := by
  have h2 := (hp.pairwise_iff (R := fun p q : Pt => p.id ≠ q.id) (fun {_ _} e => Ne.symm e)).2 hd
  refine (h2.and hs).imp ?_
  rintro a b ⟨h1, h3⟩
  omega
theorem asc_same {D D' : List Pt} (h : D.Pairwise (fun p q => p.id < q.id)) (h' : D'.Pairwise (fun p q => p.id < q.id)) (hm : ∀ p, p ∈ D ↔ p ∈ D') : D = D' :=
  sorted_same (r := fun p q : Pt => p.id < q.id) (fun a => by omega) (fun a b c h1 h2 => by omega) h h' hm
theorem IsDet.unique {T : List Tl} {lv : Int} {D D' : List Pt} (h : IsDet T lv D) (h' : IsDet T lv D') : D = D' :=
  asc_same h.asc h'.asc (fun p => by rw [h.perm.mem_iff, h'.perm.mem_iff])
end Go.Proofs.Ytpablkmdpoombaa
namespace Go.Proofs.Ytpablkmdpoombaa
open Go.RowKit

end Go.Proofs.Ytpablkmdpoombaa

/- TileX -/
namespace Go.Proofs.Ytpablkmdpoombaa
open Go.ChangeShapes Go.WideShapes Go.RowKit Go.Sort

set_option maxRecDepth 100000 in
set_option maxHeartbeats 6400000 in
theorem xtile_any (k : Ky) (v : Value) (P : List Pt) (w : World) (hp : PtsV w v P) (hn : P.length ≤ maxLen) :
    Calls Try.prog 127 #[.agg #[.int .i64 k.L, .int .i64 k.x, .int .i64 k.y, .int .i64 k.z, v]] w fun r w' => r = .returned (.bool (decide (TlOk ⟨k, P⟩))) ∧ Below w.heap.size w w' := by
  obtain ⟨gv, hgv⟩ : ∃ gv, gv = decide (TlOk ⟨k, P⟩) := ⟨_, rfl⟩
  rw [← hgv]
  have HNO := hid (fun h : ¬ TlOk ⟨k, P⟩ => show gv = false by rw [hgv]; exact decide_eq_false h)
  have HYES := hid (fun h : TlOk ⟨k, P⟩ => show gv = true by rw [hgv]; exact decide_eq_true h)
  clear hgv
  have HP := hid hp
  have HPN := hid hn
  obtain ⟨a, cap, rfl, hpd⟩ := hp
  obtain ⟨n, hnl⟩ : ∃ n, n = P.length := ⟨_, rfl⟩
  rw [← hnl] at HP hn ⊢
  have hn63 : n ≤ 9223372036854775807 := by unfold maxLen at hn; omega
  have HN := hid hnl
  have HPD := hid hpd
  clear hn hnl hpd
  obtain ⟨kL, kx, ky, kz⟩ := k
  cases hkb : keyB kL kx ky kz
  · have HF := hid (HNO.out (fun h => by have := h.key; simp only at this; rw [hkb] at this; cases this))
    have HK := hid hkb
    clear hkb
    go_enter Try.func127, Try.ntmps127
    go_wp2_with fail
    refine (xKey_any _ _ _ _ _).mono ?_
    rintro r w1 ⟨rfl, hb⟩
    rw [HK.out]
    have HB1 := hid ((by refine Below.trans ?_ (hb.mono ?_); (focus ((repeat' (first | (with_reducible exact Below.refl _ _) | (with_reducible assumption) | (with_reducible refine Below.alloc ?_ ?_ _) | (with_reducible refine Below.drew ?_) | (with_reducible refine below_drewN ?_ _) | (with_reducible refine Below.setCell ?_ ?_ _) | (with_reducible refine below_setRow ?_ ?_ _) | go_size)); done)); (focus (first | (simp; done) | (simp; omega)))) : Below w.heap.size w w1)
    clear hb
    go_wp2_with fail
    go_ret
    exact ⟨by rw [HF.out]; rfl, HB1.out⟩
  · have HK := hid hkb
    have hkl := keyB_yes hkb
    have HKY := hid hkl
    clear hkb hkl
    by_cases hn0 : n = 0
    · have hP0 : P = [] := List.eq_nil_of_length_eq_zero (by rw [← HN.out]; exact hn0)
      have HF := hid (HNO.out (fun h => h.ne hP0))
      subst hn0
      go_enter Try.func127, Try.ntmps127
      go_wp2_with fail
      refine (xKey_any _ _ _ _ _).mono ?_
      rintro r w1 ⟨rfl, hb⟩
      rw [HK.out]
      have HB1 := hid ((by refine Below.trans ?_ (hb.mono ?_); (focus ((repeat' (first | (with_reducible exact Below.refl _ _) | (with_reducible assumption) | (with_reducible refine Below.alloc ?_ ?_ _) | (with_reducible refine Below.drew ?_) | (with_reducible refine below_drewN ?_ _) | (with_reducible refine Below.setCell ?_ ?_ _) | (with_reducible refine below_setRow ?_ ?_ _) | go_size)); done)); (focus (first | (simp; done) | (simp; omega)))) : Below w.heap.size w w1)
      have t4 : w1.cell? ⟨w.heap.size, 4, none⟩ = some (.slice a 0 cap) := (cell_row (j := 4) (heap_still hb (heap_alloc_at _ _ _ rfl))).trans rfl
      clear hb
      go_wp2_with fail
      go_ret
      exact ⟨by rw [HF.out]; rfl, HB1.out⟩
    · have d0 : ((n : Int) == 0) = false := by simp; omega
      have hnp : (n : Int) ≠ 0 := by omega
      have hPn : P ≠ [] := fun e => hn0 (by rw [HN.out, e]; rfl)
      obtain ⟨b, off, rfl, hbw, hrows⟩ := HPD.out.resolve_left hPn
      have HRW := hid hrows
      have HBW := hid hbw
      have HPNE := hid hPn
      clear hrows hbw hPn
      go_enter Try.func127, Try.ntmps127
      go_wp2_with fail
      refine (xKey_any _ _ _ _ _).mono ?_
      rintro r w1 ⟨rfl, hb⟩
      rw [HK.out]
      have HB1 := hid ((by refine Below.trans ?_ (hb.mono ?_); (focus ((repeat' (first | (with_reducible exact Below.refl _ _) | (with_reducible assumption) | (with_reducible refine Below.alloc ?_ ?_ _) | (with_reducible refine Below.drew ?_) | (with_reducible refine below_drewN ?_ _) | (with_reducible refine Below.setCell ?_ ?_ _) | (with_reducible refine below_setRow ?_ ?_ _) | go_size)); done)); (focus (first | (simp; done) | (simp; omega)))) : Below w.heap.size w w1)
      have HR1 := hid (show w1.heap[w.heap.size]? = some (.cells #[.int .i64 kL, .int .i64 kx, .int .i64 ky, .int .i64 kz, .slice (some ⟨b, off, none⟩) n cap] 111) from heap_still hb (heap_alloc_at _ _ _ rfl))
      have t4 : w1.cell? ⟨w.heap.size, 4, none⟩ = some (.slice (some ⟨b, off, none⟩) n cap) := (cell_row (j := 4) HR1.out).trans rfl
      have HP1 := hid (HP.out.still HB1.out)
      clear hb
      cases hg : goodL P
      · have HF := hid (HNO.out (fun h => by have := h.good; simp only at this; rw [hg] at this; cases this))
        have HG := hid hg
        clear hg
        go_wp2_with fail
        refine (good_list _ P w1 HP1.out HPN.out).mono ?_
        rintro r w2 ⟨rfl, hb⟩
        rw [HG.out]
        have HB2 := hid (HB1.out.trans (hb.mono HB1.out.size))
        clear hb
        go_wp2_with fail
        go_ret
        exact ⟨by rw [HF.out]; rfl, HB2.out⟩
      · have HG := hid hg
        have HFINE := hid (goodL_facts hg).2.1
        have hn1k : n ≤ 1024 := by rw [HN.out]; exact (goodL_facts hg).2.2
        clear hg
        go_wp2_with fail
        refine (good_list _ P w1 HP1.out HPN.out).mono ?_
        rintro r w2 ⟨rfl, hb⟩
        rw [HG.out]
        have HB2 := hid (HB1.out.trans (hb.mono HB1.out.size))
        have HR2 := hid (heap_still hb HR1.out)
        clear hb t4 hn63
        have t4 : w2.cell? ⟨w.heap.size, 4, none⟩ = some (.slice (some ⟨b, off, none⟩) n cap) := (cell_row (j := 4) HR2.out).trans rfl
        go_wp2_with fail
        clear t4
        have hgs : w.heap.size < w2.heap.size := (Array.getElem?_eq_some_iff.1 HR2.out).1
        go_loopw [24] (fun iv W => ∃ i : Nat, i ≤ n ∧ iv = .int .i64 (i : Int) ∧ StepOk ⟨kL, kx, ky, kz⟩ P i ∧ Below w2.heap.size w2 W) (fun iv _ => n - (intOf iv).toNat)
        case atStart => exact ⟨0, by omega, rfl, StepOk.zero _ _, Below.refl _ _⟩
        case round =>
          obtain ⟨i, hi, rfl, hst, hB⟩ := hrel
          have HST := hid hst
          have HB4 := hid hB
          have hz4 := hB.size
          clear hst hB
          have HBR := hid (HB2.out.trans (HB4.out.mono HB2.out.size))
          by_cases hlt : i < n
          · have d1 : decide ((i : Int) < (n : Int)) = true := decide_eq_true (by omega)
            obtain ⟨p, hp⟩ : ∃ p, P[i]? = some p := ⟨_, List.getElem?_eq_getElem (by rw [← HN.out]; exact hlt)⟩
            have HPI := hid hp
            have HFP := hid (HFINE.out p (List.mem_of_getElem? hp))
            have hcs : ∀ j, j < 9 → wr.cell? ⟨b, off + i * 9 + j, none⟩ = some (.int .i64 (p.f j)) := fun j hj => by
              rw [HBR.out.cell HBW.out, HRW.out i p.row (by rw [List.getElem?_map, hp]; rfl) j hj, Pt.row_at p j hj]
            have HNX0 := hid (fun (hc : cellK kL.toNat p = ⟨kL, kx, ky, kz⟩) (ha : ∀ q, 0 < i → P[i - 1]? = some q → q.id < p.id) => StepOk.next HST.out hp hc ha)
            obtain ⟨l, hl12, hkl⟩ : ∃ l : Nat, l ≤ 12 ∧ kL = l := by
              obtain ⟨h1, _⟩ := HKY.out
              exact ⟨kL.toNat, by omega, by omega⟩
            have HKL := hid (show ((kL.toNat : Nat) : Int) = kL by rw [hkl]; simp)
            have HXC := hid (fun W => xCell_any p.id p.x p.y p.zl p.zh p.wd p.nm p.of p.cl kL.toNat (by omega) HFP.out.2.1 HFP.out.2.2.1 HFP.out.2.2.2 W)
            clear hp hkl hl12
            obtain ⟨p0, p1, p2, p3, p4, p5, p6, p7, p8⟩ := p
            simp only [HKL.out] at HXC
            have a0 : wr.cell? ⟨b, off + i * 9, none⟩ = some (.int .i64 p0) := hcs 0 (by decide)
            have a1 : wr.cell? ⟨b, off + i * 9 + 1, none⟩ = some (.int .i64 p1) := hcs 1 (by decide)
            have a2 : wr.cell? ⟨b, off + i * 9 + 2, none⟩ = some (.int .i64 p2) := hcs 2 (by decide)
            have a3 : wr.cell? ⟨b, off + i * 9 + 3, none⟩ = some (.int .i64 p3) := hcs 3 (by decide)
            have a4 : wr.cell? ⟨b, off + i * 9 + 4, none⟩ = some (.int .i64 p4) := hcs 4 (by decide)
            have a5 : wr.cell? ⟨b, off + i * 9 + 5, none⟩ = some (.int .i64 p5) := hcs 5 (by decide)
            have a6 : wr.cell? ⟨b, off + i * 9 + 6, none⟩ = some (.int .i64 p6) := hcs 6 (by decide)
            have a7 : wr.cell? ⟨b, off + i * 9 + 7, none⟩ = some (.int .i64 p7) := hcs 7 (by decide)
            have a8 : wr.cell? ⟨b, off + i * 9 + 8, none⟩ = some (.int .i64 p8) := hcs 8 (by decide)
            clear hcs
            go_upto_region 6 with fail
            refine gen_world (fun W5 hW5 => ?_)
            have HP5 := hid (show W5.heap[wr.heap.size]? = some (.cells #[.int .i64 p0, .int .i64 p1, .int .i64 p2, .int .i64 p3, .int .i64 p4, .int .i64 p5, .int .i64 p6, .int .i64 p7, .int .i64 p8] 78) by rw [hW5]; exact heap_alloc_at _ _ _ rfl)
            have HB5 := hid (show Below w2.heap.size w2 W5 by rw [hW5]; exact HB4.out.alloc hz4 _)
            have HT5 := hid (heap_still HB5.out HR2.out)
            have HBX := hid (show Below w.heap.size w W5 from HB2.out.trans (HB5.out.mono HB2.out.size))
            clear hW5 a0 a1 a2 a3 a4 a5 a6 a7 a8
            obtain ⟨g, hg⟩ : ∃ g, g = wr.heap.size := ⟨_, rfl⟩
            rw [← hg] at HP5 ⊢
            clear hg
            have t0 := fun d os => cell_regrown (show W5.cell? ⟨w.heap.size, 0, none⟩ = some (.int .i64 kL) from (cell_row (j := 0) HT5.out).trans rfl) d os
            have t1 := fun d os => cell_regrown (show W5.cell? ⟨w.heap.size, 1, none⟩ = some (.int .i64 kx) from (cell_row (j := 1) HT5.out).trans rfl) d os
            have t2 := fun d os => cell_regrown (show W5.cell? ⟨w.heap.size, 2, none⟩ = some (.int .i64 ky) from (cell_row (j := 2) HT5.out).trans rfl) d os
            have t3 := fun d os => cell_regrown (show W5.cell? ⟨w.heap.size, 3, none⟩ = some (.int .i64 kz) from (cell_row (j := 3) HT5.out).trans rfl) d os
            have t4 := fun d os => cell_regrown (show W5.cell? ⟨w.heap.size, 4, none⟩ = some (.slice (some ⟨b, off, none⟩) n cap) from (cell_row (j := 4) HT5.out).trans rfl) d os
            have c0 := fun d os => cell_regrown (show W5.cell? ⟨g, 0, none⟩ = some (.int .i64 p0) from (cell_row (j := 0) HP5.out).trans rfl) d os
            have c1 := fun d os => cell_regrown (show W5.cell? ⟨g, 1, none⟩ = some (.int .i64 p1) from (cell_row (j := 1) HP5.out).trans rfl) d os
            have c2 := fun d os => cell_regrown (show W5.cell? ⟨g, 2, none⟩ = some (.int .i64 p2) from (cell_row (j := 2) HP5.out).trans rfl) d os
            have c3 := fun d os => cell_regrown (show W5.cell? ⟨g, 3, none⟩ = some (.int .i64 p3) from (cell_row (j := 3) HP5.out).trans rfl) d os
            have c4 := fun d os => cell_regrown (show W5.cell? ⟨g, 4, none⟩ = some (.int .i64 p4) from (cell_row (j := 4) HP5.out).trans rfl) d os
            have c5 := fun d os => cell_regrown (show W5.cell? ⟨g, 5, none⟩ = some (.int .i64 p5) from (cell_row (j := 5) HP5.out).trans rfl) d os
            have c6 := fun d os => cell_regrown (show W5.cell? ⟨g, 6, none⟩ = some (.int .i64 p6) from (cell_row (j := 6) HP5.out).trans rfl) d os
            have c7 := fun d os => cell_regrown (show W5.cell? ⟨g, 7, none⟩ = some (.int .i64 p7) from (cell_row (j := 7) HP5.out).trans rfl) d os
            have c8 := fun d os => cell_regrown (show W5.cell? ⟨g, 8, none⟩ = some (.int .i64 p8) from (cell_row (j := 8) HP5.out).trans rfl) d os
            by_cases hi0 : i = 0
            · have dg : decide ((0 : Int) < (i : Int)) = false := decide_eq_false (by omega)
              have dg2 : ¬ 0 < i := by omega
              cases hcb : decide (cellK kL.toNat ⟨p0, p1, p2, p3, p4, p5, p6, p7, p8⟩ = ⟨kL, kx, ky, kz⟩)
              · have heq : ∀ W, (Op.equalIn 10000 109 (.agg (cellC kL.toNat p1 p2 p3)) (.agg #[.int .i64 kL, .int .i64 kx, .int .i64 ky, .int .i64 kz])).run Try.prog W = .ok false W := eqKeys (cellK kL.toNat ⟨p0, p1, p2, p3, p4, p5, p6, p7, p8⟩) ⟨kL, kx, ky, kz⟩ false hcb.symm
                have HF := hid (HNO.out (TlOk.not_cell (t := ⟨⟨kL, kx, ky, kz⟩, P⟩) HPI.out (of_decide_eq_false hcb)))
                clear hcb
                go_wp2_with fail
                refine wp_region_quiet_below (by kernel_rfl) (by kernel_rfl) ?_
                repeat (first | go_big_quiet_step ((go_at_call 151; with_reducible exact Calls.regrown_of (HXC.out _))) | quiet_step ((go_at_call 151; with_reducible exact Calls.regrown_of (HXC.out _))))
                refine wpQuiet_nil ?_
                intro _ hw'
                obtain ⟨⟨dqV, osV⟩, hw2⟩ := hw'
                subst hw2
                have HQV := hid (below_regrown W5 dqV osV)
                generalize Sort.grow (redrawn W5 dqV) osV = V at HQV ⊢
                have hsV := HQV.out.size
                clear c0 c1 c2 c3 c4 c5 c6 c7 c8 t0 t1 t2 t3 t4
                clear heq
                go_wp2_with fail
                go_ret
                exact ⟨by rw [HF.out]; rfl, HBX.out.trans (HQV.out.mono HBX.out.size)⟩
              · have heq : ∀ W, (Op.equalIn 10000 109 (.agg (cellC kL.toNat p1 p2 p3)) (.agg #[.int .i64 kL, .int .i64 kx, .int .i64 ky, .int .i64 kz])).run Try.prog W = .ok true W := eqKeys (cellK kL.toNat ⟨p0, p1, p2, p3, p4, p5, p6, p7, p8⟩) ⟨kL, kx, ky, kz⟩ true hcb.symm
                have HST2 := hid (HNX0.out (of_decide_eq_true hcb) (fun q h _ => absurd h dg2))
                clear hcb
                go_wp2_with fail
                refine wp_region_quiet_below (by kernel_rfl) (by kernel_rfl) ?_
                repeat (first | go_big_quiet_step ((go_at_call 151; with_reducible exact Calls.regrown_of (HXC.out _))) | quiet_step ((go_at_call 151; with_reducible exact Calls.regrown_of (HXC.out _))))
                refine wpQuiet_nil ?_
                intro _ hw'
                obtain ⟨⟨dqV, osV⟩, hw2⟩ := hw'
                subst hw2
                have HQV := hid (below_regrown W5 dqV osV)
                generalize Sort.grow (redrawn W5 dqV) osV = V at HQV ⊢
                have hsV := HQV.out.size
                clear c0 c1 c2 c3 c4 c5 c6 c7 c8 t0 t1 t2 t3 t4
                clear heq
                go_wp2_with fail
                exact ⟨⟨i + 1, by omega, by go_num, HST2.out, HB5.out.trans (HQV.out.mono HB5.out.size)⟩, by simp [intOf]; omega⟩
            · obtain ⟨q, hq⟩ : ∃ q, P[i - 1]? = some q := ⟨_, List.getElem?_eq_getElem (by rw [← HN.out]; omega)⟩
              have b0 := fun d os => cell_regrown (show W5.cell? ⟨b, off + (i - 1) * 9, none⟩ = some (.int .i64 q.id) by
                rw [HBX.out.cell HBW.out]
                exact (HRW.out (i - 1) q.row (by rw [List.getElem?_map, hq]; rfl) 0 (by decide)).trans rfl) d os
              have dg : decide ((0 : Int) < (i : Int)) = true := decide_eq_true (by omega)
              have dg2 : 0 < i := by omega
              have HQ := hid hq
              clear hq
              by_cases hle : p0 ≤ q.id
              · have HF := hid (HNO.out (TlOk.not_asc (t := ⟨⟨kL, kx, ky, kz⟩, P⟩) dg2 HQ.out HPI.out (show ¬ q.id < p0 by omega)))
                have dl : decide (p0 ≤ q.id) = true := decide_eq_true hle
                go_wp2_with fail
                refine wp_region_quiet_below (by kernel_rfl) (by kernel_rfl) ?_
                repeat (first | go_big_quiet_step (fail) | quiet_step (fail))
                refine wpQuiet_nil ?_
                intro _ hw'
                obtain ⟨⟨dqV, osV⟩, hw2⟩ := hw'
                subst hw2
                have HQV := hid (below_regrown W5 dqV osV)
                generalize Sort.grow (redrawn W5 dqV) osV = V at HQV ⊢
                have hsV := HQV.out.size
                clear c0 c1 c2 c3 c4 c5 c6 c7 c8 t0 t1 t2 t3 t4
                clear b0
                go_wp2_with fail
                go_ret
                exact ⟨by rw [HF.out]; rfl, HBX.out.trans (HQV.out.mono HBX.out.size)⟩
              · have dl : decide (p0 ≤ q.id) = false := decide_eq_false hle
                have HLT := hid (show q.id < p0 by omega)
                have HPV := hid (fun (x : Pt) (_ : 0 < i) (hx : P[i - 1]? = some x) => show x.id < p0 from by rw [Option.some.inj (hx.symm.trans HQ.out)]; exact HLT.out)
                cases hcb : decide (cellK kL.toNat ⟨p0, p1, p2, p3, p4, p5, p6, p7, p8⟩ = ⟨kL, kx, ky, kz⟩)
                · have heq : ∀ W, (Op.equalIn 10000 109 (.agg (cellC kL.toNat p1 p2 p3)) (.agg #[.int .i64 kL, .int .i64 kx, .int .i64 ky, .int .i64 kz])).run Try.prog W = .ok false W := eqKeys (cellK kL.toNat ⟨p0, p1, p2, p3, p4, p5, p6, p7, p8⟩) ⟨kL, kx, ky, kz⟩ false hcb.symm
                  have HF := hid (HNO.out (TlOk.not_cell (t := ⟨⟨kL, kx, ky, kz⟩, P⟩) HPI.out (of_decide_eq_false hcb)))
                  clear hcb
                  go_wp2_with fail
                  refine wp_region_quiet_below (by kernel_rfl) (by kernel_rfl) ?_
                  repeat (first | go_big_quiet_step ((go_at_call 151; with_reducible exact Calls.regrown_of (HXC.out _))) | quiet_step ((go_at_call 151; with_reducible exact Calls.regrown_of (HXC.out _))))
                  refine wpQuiet_nil ?_
                  intro _ hw'
                  obtain ⟨⟨dqV, osV⟩, hw2⟩ := hw'
                  subst hw2
                  have HQV := hid (below_regrown W5 dqV osV)
                  generalize Sort.grow (redrawn W5 dqV) osV = V at HQV ⊢
                  have hsV := HQV.out.size
                  clear c0 c1 c2 c3 c4 c5 c6 c7 c8 t0 t1 t2 t3 t4
                  clear heq
                  go_wp2_with fail
                  go_ret
                  exact ⟨by rw [HF.out]; rfl, HBX.out.trans (HQV.out.mono HBX.out.size)⟩
                · have heq : ∀ W, (Op.equalIn 10000 109 (.agg (cellC kL.toNat p1 p2 p3)) (.agg #[.int .i64 kL, .int .i64 kx, .int .i64 ky, .int .i64 kz])).run Try.prog W = .ok true W := eqKeys (cellK kL.toNat ⟨p0, p1, p2, p3, p4, p5, p6, p7, p8⟩) ⟨kL, kx, ky, kz⟩ true hcb.symm
                  have HST2 := hid (HNX0.out (of_decide_eq_true hcb) HPV.out)
                  clear hcb
                  go_wp2_with fail
                  refine wp_region_quiet_below (by kernel_rfl) (by kernel_rfl) ?_
                  repeat (first | go_big_quiet_step ((go_at_call 151; with_reducible exact Calls.regrown_of (HXC.out _))) | quiet_step ((go_at_call 151; with_reducible exact Calls.regrown_of (HXC.out _))))
                  refine wpQuiet_nil ?_
                  intro _ hw'
                  obtain ⟨⟨dqV, osV⟩, hw2⟩ := hw'
                  subst hw2
                  have HQV := hid (below_regrown W5 dqV osV)
                  generalize Sort.grow (redrawn W5 dqV) osV = V at HQV ⊢
                  have hsV := HQV.out.size
                  clear c0 c1 c2 c3 c4 c5 c6 c7 c8 t0 t1 t2 t3 t4
                  clear heq
                  go_wp2_with fail
                  exact ⟨⟨i + 1, by omega, by go_num, HST2.out, HB5.out.trans (HQV.out.mono HB5.out.size)⟩, by simp [intOf]; omega⟩
          · obtain rfl : i = n := by omega
            have d1 : decide ((i : Int) < (i : Int)) = false := by simp
            have HF := hid (HYES.out (StepOk.done (by rw [← HN.out]; exact HST.out) HK.out HPNE.out HG.out))
            go_wp2_with fail
            go_ret
            exact ⟨by rw [HF.out]; rfl, HBR.out⟩
set_option maxRecDepth 100000 in
set_option maxHeartbeats 6400000 in
theorem rtile_any (k : Ky) (v : Value) (P : List Pt) (w : World) (hp : PtsV w v P) (hn : P.length ≤ maxLen) :
    Calls Try.prog 129 #[.agg #[.int .i64 k.L, .int .i64 k.x, .int .i64 k.y, .int .i64 k.z, v]] w fun r w' => r = .returned (.bool (decide (TlOk ⟨k, P⟩))) ∧ Below w.heap.size w w' := by
  obtain ⟨gv, hgv⟩ : ∃ gv, gv = decide (TlOk ⟨k, P⟩) := ⟨_, rfl⟩
  rw [← hgv]
  have HNO := hid (fun h : ¬ TlOk ⟨k, P⟩ => show gv = false by rw [hgv]; exact decide_eq_false h)
  have HYES := hid (fun h : TlOk ⟨k, P⟩ => show gv = true by rw [hgv]; exact decide_eq_true h)
  clear hgv
  have HP := hid hp
  have HPN := hid hn
  obtain ⟨a, cap, rfl, hpd⟩ := hp
  obtain ⟨n, hnl⟩ : ∃ n, n = P.length := ⟨_, rfl⟩
  rw [← hnl] at HP hn ⊢
  have hn63 : n ≤ 9223372036854775807 := by unfold maxLen at hn; omega
  have HN := hid hnl
  have HPD := hid hpd
  clear hn hnl hpd
  obtain ⟨kL, kx, ky, kz⟩ := k
  cases hkb : keyB kL kx ky kz
  · have HF := hid (HNO.out (fun h => by have := h.key; simp only at this; rw [hkb] at this; cases this))
    have HK := hid hkb
    clear hkb
    go_enter Try.func129, Try.ntmps129
    go_wp2_with fail
    refine (rKey_any _ _ _ _ _).mono ?_
    rintro r w1 ⟨rfl, hb⟩
    rw [HK.out]
    have HB1 := hid ((by refine Below.trans ?_ (hb.mono ?_); (focus ((repeat' (first | (with_reducible exact Below.refl _ _) | (with_reducible assumption) | (with_reducible refine Below.alloc ?_ ?_ _) | (with_reducible refine Below.drew ?_) | (with_reducible refine below_drewN ?_ _) | (with_reducible refine Below.setCell ?_ ?_ _) | (with_reducible refine below_setRow ?_ ?_ _) | go_size)); done)); (focus (first | (simp; done) | (simp; omega)))) : Below w.heap.size w w1)
    clear hb
    go_wp2_with fail
    go_ret
    exact ⟨by rw [HF.out]; rfl, HB1.out⟩
  · have HK := hid hkb
    have hkl := keyB_yes hkb
    have HKY := hid hkl
    clear hkb hkl
    by_cases hn0 : n = 0
    · have hP0 : P = [] := List.eq_nil_of_length_eq_zero (by rw [← HN.out]; exact hn0)
      have HF := hid (HNO.out (fun h => h.ne hP0))
      subst hn0
      go_enter Try.func129, Try.ntmps129
      go_wp2_with fail
      refine (rKey_any _ _ _ _ _).mono ?_
      rintro r w1 ⟨rfl, hb⟩
      rw [HK.out]
      have HB1 := hid ((by refine Below.trans ?_ (hb.mono ?_); (focus ((repeat' (first | (with_reducible exact Below.refl _ _) | (with_reducible assumption) | (with_reducible refine Below.alloc ?_ ?_ _) | (with_reducible refine Below.drew ?_) | (with_reducible refine below_drewN ?_ _) | (with_reducible refine Below.setCell ?_ ?_ _) | (with_reducible refine below_setRow ?_ ?_ _) | go_size)); done)); (focus (first | (simp; done) | (simp; omega)))) : Below w.heap.size w w1)
      have t4 : w1.cell? ⟨w.heap.size, 4, none⟩ = some (.slice a 0 cap) := (cell_row (j := 4) (heap_still hb (heap_alloc_at _ _ _ rfl))).trans rfl
      clear hb
      go_wp2_with fail
      go_ret
      exact ⟨by rw [HF.out]; rfl, HB1.out⟩
    · have d0 : ((n : Int) == 0) = false := by simp; omega
      have hnp : (n : Int) ≠ 0 := by omega
      have hPn : P ≠ [] := fun e => hn0 (by rw [HN.out, e]; rfl)
      obtain ⟨b, off, rfl, hbw, hrows⟩ := HPD.out.resolve_left hPn
      have HRW := hid hrows
      have HBW := hid hbw
      have HPNE := hid hPn
      clear hrows hbw hPn
      go_enter Try.func129, Try.ntmps129
      go_wp2_with fail
      refine (rKey_any _ _ _ _ _).mono ?_
      rintro r w1 ⟨rfl, hb⟩
      rw [HK.out]
      have HB1 := hid ((by refine Below.trans ?_ (hb.mono ?_); (focus ((repeat' (first | (with_reducible exact Below.refl _ _) | (with_reducible assumption) | (with_reducible refine Below.alloc ?_ ?_ _) | (with_reducible refine Below.drew ?_) | (with_reducible refine below_drewN ?_ _) | (with_reducible refine Below.setCell ?_ ?_ _) | (with_reducible refine below_setRow ?_ ?_ _) | go_size)); done)); (focus (first | (simp; done) | (simp; omega)))) : Below w.heap.size w w1)
      have HR1 := hid (show w1.heap[w.heap.size]? = some (.cells #[.int .i64 kL, .int .i64 kx, .int .i64 ky, .int .i64 kz, .slice (some ⟨b, off, none⟩) n cap] 111) from heap_still hb (heap_alloc_at _ _ _ rfl))
      have t4 : w1.cell? ⟨w.heap.size, 4, none⟩ = some (.slice (some ⟨b, off, none⟩) n cap) := (cell_row (j := 4) HR1.out).trans rfl
      have HP1 := hid (HP.out.still HB1.out)
      clear hb
      cases hg : goodL P
      · have HF := hid (HNO.out (fun h => by have := h.good; simp only at this; rw [hg] at this; cases this))
        have HG := hid hg
        clear hg
        go_wp2_with fail
        refine (rvalid_list _ P w1 HP1.out ).mono ?_
        rintro r w2 ⟨rfl, hb⟩
        rw [HG.out]
        have HB2 := hid (HB1.out.trans (hb.mono HB1.out.size))
        clear hb
        go_wp2_with fail
        go_ret
        exact ⟨by rw [HF.out]; rfl, HB2.out⟩
      · have HG := hid hg
        have HFINE := hid (goodL_facts hg).2.1
        have hn1k : n ≤ 1024 := by rw [HN.out]; exact (goodL_facts hg).2.2
        clear hg
        go_wp2_with fail
        refine (rvalid_list _ P w1 HP1.out ).mono ?_
        rintro r w2 ⟨rfl, hb⟩
        rw [HG.out]
        have HB2 := hid (HB1.out.trans (hb.mono HB1.out.size))
        have HR2 := hid (heap_still hb HR1.out)
        clear hb t4 hn63
        have t4 : w2.cell? ⟨w.heap.size, 4, none⟩ = some (.slice (some ⟨b, off, none⟩) n cap) := (cell_row (j := 4) HR2.out).trans rfl
        go_wp2_with fail
        clear t4
        have hgs : w.heap.size < w2.heap.size := (Array.getElem?_eq_some_iff.1 HR2.out).1
        go_loopw [24] (fun iv W => ∃ i : Nat, i ≤ n ∧ iv = .int .i64 (i : Int) ∧ StepOk ⟨kL, kx, ky, kz⟩ P i ∧ Below w2.heap.size w2 W) (fun iv _ => n - (intOf iv).toNat)
        case atStart => exact ⟨0, by omega, rfl, StepOk.zero _ _, Below.refl _ _⟩
        case round =>
          obtain ⟨i, hi, rfl, hst, hB⟩ := hrel
          have HST := hid hst
          have HB4 := hid hB
          have hz4 := hB.size
          clear hst hB
          have HBR := hid (HB2.out.trans (HB4.out.mono HB2.out.size))
          by_cases hlt : i < n
          · have d1 : decide ((i : Int) < (n : Int)) = true := decide_eq_true (by omega)
            obtain ⟨p, hp⟩ : ∃ p, P[i]? = some p := ⟨_, List.getElem?_eq_getElem (by rw [← HN.out]; exact hlt)⟩
            have HPI := hid hp
            have HFP := hid (HFINE.out p (List.mem_of_getElem? hp))
            have hcs : ∀ j, j < 9 → wr.cell? ⟨b, off + i * 9 + j, none⟩ = some (.int .i64 (p.f j)) := fun j hj => by
              rw [HBR.out.cell HBW.out, HRW.out i p.row (by rw [List.getElem?_map, hp]; rfl) j hj, Pt.row_at p j hj]
            have HNX0 := hid (fun (hc : cellK kL.toNat p = ⟨kL, kx, ky, kz⟩) (ha : ∀ q, 0 < i → P[i - 1]? = some q → q.id < p.id) => StepOk.next HST.out hp hc ha)
            obtain ⟨l, hl12, hkl⟩ : ∃ l : Nat, l ≤ 12 ∧ kL = l := by
              obtain ⟨h1, _⟩ := HKY.out
              exact ⟨kL.toNat, by omega, by omega⟩
            have HKL := hid (show ((kL.toNat : Nat) : Int) = kL by rw [hkl]; simp)
            have HXC := hid (fun W => rCell_any p.id p.x p.y p.zl p.zh p.wd p.nm p.of p.cl kL.toNat (by omega) HFP.out.2.1 HFP.out.2.2.1 HFP.out.2.2.2 W)
            clear hp hkl hl12
            obtain ⟨p0, p1, p2, p3, p4, p5, p6, p7, p8⟩ := p
            simp only [HKL.out] at HXC
            have a0 : wr.cell? ⟨b, off + i * 9, none⟩ = some (.int .i64 p0) := hcs 0 (by decide)
            have a1 : wr.cell? ⟨b, off + i * 9 + 1, none⟩ = some (.int .i64 p1) := hcs 1 (by decide)
            have a2 : wr.cell? ⟨b, off + i * 9 + 2, none⟩ = some (.int .i64 p2) := hcs 2 (by decide)
            have a3 : wr.cell? ⟨b, off + i * 9 + 3, none⟩ = some (.int .i64 p3) := hcs 3 (by decide)
            have a4 : wr.cell? ⟨b, off + i * 9 + 4, none⟩ = some (.int .i64 p4) := hcs 4 (by decide)
            have a5 : wr.cell? ⟨b, off + i * 9 + 5, none⟩ = some (.int .i64 p5) := hcs 5 (by decide)
            have a6 : wr.cell? ⟨b, off + i * 9 + 6, none⟩ = some (.int .i64 p6) := hcs 6 (by decide)
            have a7 : wr.cell? ⟨b, off + i * 9 + 7, none⟩ = some (.int .i64 p7) := hcs 7 (by decide)
            have a8 : wr.cell? ⟨b, off + i * 9 + 8, none⟩ = some (.int .i64 p8) := hcs 8 (by decide)
            clear hcs
            go_upto_region 6 with fail
            refine gen_world (fun W5 hW5 => ?_)
            have HP5 := hid (show W5.heap[wr.heap.size]? = some (.cells #[.int .i64 p0, .int .i64 p1, .int .i64 p2, .int .i64 p3, .int .i64 p4, .int .i64 p5, .int .i64 p6, .int .i64 p7, .int .i64 p8] 78) by rw [hW5]; exact heap_alloc_at _ _ _ rfl)
            have HB5 := hid (show Below w2.heap.size w2 W5 by rw [hW5]; exact HB4.out.alloc hz4 _)
            have HT5 := hid (heap_still HB5.out HR2.out)
            have HBX := hid (show Below w.heap.size w W5 from HB2.out.trans (HB5.out.mono HB2.out.size))
            clear hW5 a0 a1 a2 a3 a4 a5 a6 a7 a8
            obtain ⟨g, hg⟩ : ∃ g, g = wr.heap.size := ⟨_, rfl⟩
            rw [← hg] at HP5 ⊢
            clear hg
            have t0 := fun d os => cell_regrown (show W5.cell? ⟨w.heap.size, 0, none⟩ = some (.int .i64 kL) from (cell_row (j := 0) HT5.out).trans rfl) d os
            have t1 := fun d os => cell_regrown (show W5.cell? ⟨w.heap.size, 1, none⟩ = some (.int .i64 kx) from (cell_row (j := 1) HT5.out).trans rfl) d os
            have t2 := fun d os => cell_regrown (show W5.cell? ⟨w.heap.size, 2, none⟩ = some (.int .i64 ky) from (cell_row (j := 2) HT5.out).trans rfl) d os
            have t3 := fun d os => cell_regrown (show W5.cell? ⟨w.heap.size, 3, none⟩ = some (.int .i64 kz) from (cell_row (j := 3) HT5.out).trans rfl) d os
            have t4 := fun d os => cell_regrown (show W5.cell? ⟨w.heap.size, 4, none⟩ = some (.slice (some ⟨b, off, none⟩) n cap) from (cell_row (j := 4) HT5.out).trans rfl) d os
            have c0 := fun d os => cell_regrown (show W5.cell? ⟨g, 0, none⟩ = some (.int .i64 p0) from (cell_row (j := 0) HP5.out).trans rfl) d os
            have c1 := fun d os => cell_regrown (show W5.cell? ⟨g, 1, none⟩ = some (.int .i64 p1) from (cell_row (j := 1) HP5.out).trans rfl) d os
            have c2 := fun d os => cell_regrown (show W5.cell? ⟨g, 2, none⟩ = some (.int .i64 p2) from (cell_row (j := 2) HP5.out).trans rfl) d os
            have c3 := fun d os => cell_regrown (show W5.cell? ⟨g, 3, none⟩ = some (.int .i64 p3) from (cell_row (j := 3) HP5.out).trans rfl) d os
            have c4 := fun d os => cell_regrown (show W5.cell? ⟨g, 4, none⟩ = some (.int .i64 p4) from (cell_row (j := 4) HP5.out).trans rfl) d os
            have c5 := fun d os => cell_regrown (show W5.cell? ⟨g, 5, none⟩ = some (.int .i64 p5) from (cell_row (j := 5) HP5.out).trans rfl) d os
            have c6 := fun d os => cell_regrown (show W5.cell? ⟨g, 6, none⟩ = some (.int .i64 p6) from (cell_row (j := 6) HP5.out).trans rfl) d os
            have c7 := fun d os => cell_regrown (show W5.cell? ⟨g, 7, none⟩ = some (.int .i64 p7) from (cell_row (j := 7) HP5.out).trans rfl) d os
            have c8 := fun d os => cell_regrown (show W5.cell? ⟨g, 8, none⟩ = some (.int .i64 p8) from (cell_row (j := 8) HP5.out).trans rfl) d os
            by_cases hi0 : i = 0
            · have dg : decide ((0 : Int) < (i : Int)) = false := decide_eq_false (by omega)
              have dg2 : ¬ 0 < i := by omega
              cases hcb : decide (cellK kL.toNat ⟨p0, p1, p2, p3, p4, p5, p6, p7, p8⟩ = ⟨kL, kx, ky, kz⟩)
              · have heq : ∀ W, (Op.equalIn 10000 109 (.agg (cellC kL.toNat p1 p2 p3)) (.agg #[.int .i64 kL, .int .i64 kx, .int .i64 ky, .int .i64 kz])).run Try.prog W = .ok false W := eqKeys (cellK kL.toNat ⟨p0, p1, p2, p3, p4, p5, p6, p7, p8⟩) ⟨kL, kx, ky, kz⟩ false hcb.symm
                have HF := hid (HNO.out (TlOk.not_cell (t := ⟨⟨kL, kx, ky, kz⟩, P⟩) HPI.out (of_decide_eq_false hcb)))
                clear hcb
                go_wp2_with fail
                refine wp_region_quiet_below (by kernel_rfl) (by kernel_rfl) ?_
                repeat (first | go_big_quiet_step ((go_at_call 153; with_reducible exact Calls.regrown_of (HXC.out _))) | quiet_step ((go_at_call 153; with_reducible exact Calls.regrown_of (HXC.out _))))
                refine wpQuiet_nil ?_
                intro _ hw'
                obtain ⟨⟨dqV, osV⟩, hw2⟩ := hw'
                subst hw2
                have HQV := hid (below_regrown W5 dqV osV)
                generalize Sort.grow (redrawn W5 dqV) osV = V at HQV ⊢
                have hsV := HQV.out.size
                clear c0 c1 c2 c3 c4 c5 c6 c7 c8 t0 t1 t2 t3 t4
                clear heq
                go_wp2_with fail
                go_ret
                exact ⟨by rw [HF.out]; rfl, HBX.out.trans (HQV.out.mono HBX.out.size)⟩
              · have heq : ∀ W, (Op.equalIn 10000 109 (.agg (cellC kL.toNat p1 p2 p3)) (.agg #[.int .i64 kL, .int .i64 kx, .int .i64 ky, .int .i64 kz])).run Try.prog W = .ok true W := eqKeys (cellK kL.toNat ⟨p0, p1, p2, p3, p4, p5, p6, p7, p8⟩) ⟨kL, kx, ky, kz⟩ true hcb.symm
                have HST2 := hid (HNX0.out (of_decide_eq_true hcb) (fun q h _ => absurd h dg2))
                clear hcb
                go_wp2_with fail
                refine wp_region_quiet_below (by kernel_rfl) (by kernel_rfl) ?_
                repeat (first | go_big_quiet_step ((go_at_call 153; with_reducible exact Calls.regrown_of (HXC.out _))) | quiet_step ((go_at_call 153; with_reducible exact Calls.regrown_of (HXC.out _))))
                refine wpQuiet_nil ?_
                intro _ hw'
                obtain ⟨⟨dqV, osV⟩, hw2⟩ := hw'
                subst hw2
                have HQV := hid (below_regrown W5 dqV osV)
                generalize Sort.grow (redrawn W5 dqV) osV = V at HQV ⊢
                have hsV := HQV.out.size
                clear c0 c1 c2 c3 c4 c5 c6 c7 c8 t0 t1 t2 t3 t4
                clear heq
                go_wp2_with fail
                exact ⟨⟨i + 1, by omega, by go_num, HST2.out, HB5.out.trans (HQV.out.mono HB5.out.size)⟩, by simp [intOf]; omega⟩
            · obtain ⟨q, hq⟩ : ∃ q, P[i - 1]? = some q := ⟨_, List.getElem?_eq_getElem (by rw [← HN.out]; omega)⟩
              have b0 := fun d os => cell_regrown (show W5.cell? ⟨b, off + (i - 1) * 9, none⟩ = some (.int .i64 q.id) by
                rw [HBX.out.cell HBW.out]
                exact (HRW.out (i - 1) q.row (by rw [List.getElem?_map, hq]; rfl) 0 (by decide)).trans rfl) d os
              have dg : decide ((0 : Int) < (i : Int)) = true := decide_eq_true (by omega)
              have dg2 : 0 < i := by omega
              have HQ := hid hq
              clear hq
              by_cases hle : p0 ≤ q.id
              · have HF := hid (HNO.out (TlOk.not_asc (t := ⟨⟨kL, kx, ky, kz⟩, P⟩) dg2 HQ.out HPI.out (show ¬ q.id < p0 by omega)))
                have dl : decide (p0 ≤ q.id) = true := decide_eq_true hle
                go_wp2_with fail
                refine wp_region_quiet_below (by kernel_rfl) (by kernel_rfl) ?_
                repeat (first | go_big_quiet_step (fail) | quiet_step (fail))
                refine wpQuiet_nil ?_
                intro _ hw'
                obtain ⟨⟨dqV, osV⟩, hw2⟩ := hw'
                subst hw2
                have HQV := hid (below_regrown W5 dqV osV)
                generalize Sort.grow (redrawn W5 dqV) osV = V at HQV ⊢
                have hsV := HQV.out.size
                clear c0 c1 c2 c3 c4 c5 c6 c7 c8 t0 t1 t2 t3 t4
                clear b0
                go_wp2_with fail
                go_ret
                exact ⟨by rw [HF.out]; rfl, HBX.out.trans (HQV.out.mono HBX.out.size)⟩
              · have dl : decide (p0 ≤ q.id) = false := decide_eq_false hle
                have HLT := hid (show q.id < p0 by omega)
                have HPV := hid (fun (x : Pt) (_ : 0 < i) (hx : P[i - 1]? = some x) => show x.id < p0 from by rw [Option.some.inj (hx.symm.trans HQ.out)]; exact HLT.out)
                cases hcb : decide (cellK kL.toNat ⟨p0, p1, p2, p3, p4, p5, p6, p7, p8⟩ = ⟨kL, kx, ky, kz⟩)
                · have heq : ∀ W, (Op.equalIn 10000 109 (.agg (cellC kL.toNat p1 p2 p3)) (.agg #[.int .i64 kL, .int .i64 kx, .int .i64 ky, .int .i64 kz])).run Try.prog W = .ok false W := eqKeys (cellK kL.toNat ⟨p0, p1, p2, p3, p4, p5, p6, p7, p8⟩) ⟨kL, kx, ky, kz⟩ false hcb.symm
                  have HF := hid (HNO.out (TlOk.not_cell (t := ⟨⟨kL, kx, ky, kz⟩, P⟩) HPI.out (of_decide_eq_false hcb)))
                  clear hcb
                  go_wp2_with fail
                  refine wp_region_quiet_below (by kernel_rfl) (by kernel_rfl) ?_
                  repeat (first | go_big_quiet_step ((go_at_call 153; with_reducible exact Calls.regrown_of (HXC.out _))) | quiet_step ((go_at_call 153; with_reducible exact Calls.regrown_of (HXC.out _))))
                  refine wpQuiet_nil ?_
                  intro _ hw'
                  obtain ⟨⟨dqV, osV⟩, hw2⟩ := hw'
                  subst hw2
                  have HQV := hid (below_regrown W5 dqV osV)
                  generalize Sort.grow (redrawn W5 dqV) osV = V at HQV ⊢
                  have hsV := HQV.out.size
                  clear c0 c1 c2 c3 c4 c5 c6 c7 c8 t0 t1 t2 t3 t4
                  clear heq
                  go_wp2_with fail
                  go_ret
                  exact ⟨by rw [HF.out]; rfl, HBX.out.trans (HQV.out.mono HBX.out.size)⟩
                · have heq : ∀ W, (Op.equalIn 10000 109 (.agg (cellC kL.toNat p1 p2 p3)) (.agg #[.int .i64 kL, .int .i64 kx, .int .i64 ky, .int .i64 kz])).run Try.prog W = .ok true W := eqKeys (cellK kL.toNat ⟨p0, p1, p2, p3, p4, p5, p6, p7, p8⟩) ⟨kL, kx, ky, kz⟩ true hcb.symm
                  have HST2 := hid (HNX0.out (of_decide_eq_true hcb) HPV.out)
                  clear hcb
                  go_wp2_with fail
                  refine wp_region_quiet_below (by kernel_rfl) (by kernel_rfl) ?_
                  repeat (first | go_big_quiet_step ((go_at_call 153; with_reducible exact Calls.regrown_of (HXC.out _))) | quiet_step ((go_at_call 153; with_reducible exact Calls.regrown_of (HXC.out _))))
                  refine wpQuiet_nil ?_
                  intro _ hw'
                  obtain ⟨⟨dqV, osV⟩, hw2⟩ := hw'
                  subst hw2
                  have HQV := hid (below_regrown W5 dqV osV)
                  generalize Sort.grow (redrawn W5 dqV) osV = V at HQV ⊢
                  have hsV := HQV.out.size
                  clear c0 c1 c2 c3 c4 c5 c6 c7 c8 t0 t1 t2 t3 t4
                  clear heq
                  go_wp2_with fail
                  exact ⟨⟨i + 1, by omega, by go_num, HST2.out, HB5.out.trans (HQV.out.mono HB5.out.size)⟩, by simp [intOf]; omega⟩
          · obtain rfl : i = n := by omega
            have d1 : decide ((i : Int) < (i : Int)) = false := by simp
            have HF := hid (HYES.out (StepOk.done (by rw [← HN.out]; exact HST.out) HK.out HPNE.out HG.out))
            go_wp2_with fail
            go_ret
            exact ⟨by rw [HF.out]; rfl, HBR.out⟩
end Go.Proofs.Ytpablkmdpoombaa

