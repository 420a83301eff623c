/- Texts of the seat Yteoikaedpgianaa, turned to this one by wip/port.py: Aid Reg Ext Quat Core Times Prod Flat Beam Num Write Writes Open Rec Box Nav Valid Track OpenTrack EncX EncY. -/
import Derived.Test.YtpablkmdpoombaaFund
import Derived.Test.YtpablkmdpoombaaVal
import Derived.Test.YtpablkmdpoombaaPts
import Derived.Test.YtpablkmdpoombaaSrt
import Derived.Test.YtpablkmdpoombaaNum
import Derived.Test.YtpablkmdpoombaaCrc
import Derived.Test.YtpablkmdpoombaaEnc
import Derived.Test.YtpablkmdpoombaaRp
import Derived.Test.YtpablkmdpoombaaAidB
import Derived.Test.YtpablkmdpoombaaAidC
import Derived.Test.YtpablkmdpoombaaAidD
import Derived.Test.YtpablkmdpoombaaAidE
import Derived.WalkKit
import Derived.ProofKit
import Derived.Handy
import Derived.WalkSpells
import Derived.Deep.QuietTactic
import Derived.BigQuiet
import Derived.BigRegion
import Derived.Laws.CopyOwn
import Derived.Lib.SmallJoins
import Derived.Orders
import Derived.Laws.Bits64b
import Derived.LoopN
import Derived.OpenShut
import Derived.Deep.Slices
import Derived.Lib.QuietBelow
/- Aid -/
namespace Go.Proofs.Ytpablkmdpoombaa
open Go.RowKit

/-- the cells of a block that holds integers -/
theorem cells_ints {w : World} {b t : Nat} {fr : Nat × Nat} {C : Array Value} (zs : List Int) (h : w.heap[b]? = some (.cells C t fr))
    (hC : C = (zs.map (Value.int .i64)).toArray) (i : Nat) (hi : i < zs.length) : w.cell? ⟨b, 0 + i, none⟩ = some (.int .i64 (zs.getD i 0)) := by
  subst hC
  simp [World.cell?, h, List.getD_eq_getElem?_getD, List.getElem?_eq_getElem hi]
section
variable {P : Program} {fn : Func} {p u v : Tmp} {ty : TypeId} {tmps : Array Value} {w : World} {g : Nat} {t : TypeId} {cs : Array Value} {fr : Nat × Nat} {d : TypeDesc} {n : Nat}
end
end Go.Proofs.Ytpablkmdpoombaa

/- Ext -/
namespace Go.Proofs.Ytpablkmdpoombaa
open Go.RowKit

section
variable {P : Program} {Q : Exit → Act → World → Prop}
/-- the same, one predicate for each operation's value -/
theorem wp_region_pt {id : Nat} {l : List Oper} {A0 : Act} {w : World} (hm : P.follows .mixedOrders = true) (hb : backB 0 l = true) (ds : List (Option Nat)) (hl : l.length = ds.length) (hds : (ds.filterMap _root_.id).Nodup)
    (Pr : Nat → World → Value → Prop) (hPr : ∀ j W W' v, Below W.heap.size W W' → Pr j W v → Pr j W' v) (us0 : Nat → Value) (hus : putF A0 ds us0 = A0)
    (hs : PtSteps P l.toArray Q A0 ds w Pr 0 l) (hend : ∀ us W, Below w.heap.size w W → (∀ j, j < ds.length → Pr j W (us j)) → Q .normal (putF A0 ds us) W) : (Code.region id l.toArray true).wp P Q A0 w :=
  wp_region_by hm hb ds hl hds (fun L us W => Below w.heap.size w W ∧ ∀ j, L j = true → Pr j W (us j)) us0 hus ⟨(Below.refl _ _).drew, by simp⟩ (hs.by hPr)
    (fun L us W hL hR => hend us W hR.1 (fun j hj => hR.2 j (hL j hj)))
/-- the value is this one -/
def IsV (x : Value) (_ : World) (v : Value) : Prop := v = x
theorem IsV.stb (x : Value) : Stb (IsV x) := fun _ _ _ _ h => h
/-- the same by a list of predicates, one for each operation -/
theorem wp_region_pl {id : Nat} {l : List Oper} {A0 : Act} {w : World} (hm : P.follows .mixedOrders = true) (hb : backB 0 l = true) (ds : List (Option Nat)) (hl : l.length = ds.length) (hds : (ds.filterMap _root_.id).Nodup)
    (ps : List (World → Value → Prop)) (hps : StbL ps)
    (hs : PtSteps P l.toArray Q A0 ds w (fun j => ps.getD j (fun _ _ => True)) 0 l) (hend : ∀ us W, Below w.heap.size w W → (∀ j, j < ds.length → ps.getD j (fun _ _ => True) W (us j)) → Q .normal (putF A0 ds us) W) : (Code.region id l.toArray true).wp P Q A0 w :=
  wp_region_pt hm hb ds hl hds _ hps.at (selfF A0 ds) (putF_self A0 ds) hs hend
end
end Go.Proofs.Ytpablkmdpoombaa
namespace Go.Proofs.Ytpablkmdpoombaa
open Go.RowKit

/-- each operation waits for all of the first c -/
def covers (c : Nat) (l : List Oper) : Bool := l.all fun o => (List.range c).all fun j => o.after.any fun e => Region.binds .any e && e.on == j
section
variable {P : Program} {Q : Exit → Act → World → Prop}
end
end Go.Proofs.Ytpablkmdpoombaa
namespace Go.Proofs.Ytpablkmdpoombaa
open Go.RowKit

/-- each operation, from the values of those that it waits for, in any grown world: a value with its predicate, a grown world, and the relation again -/
def PtStepsX (P : Program) (ops : Array Oper) (Q : Exit → Act → World → Prop) (A0 : Act) (ds : List (Option Nat)) (B : World) (Pr : Nat → World → Value → Prop) (X : (Nat → Bool) → (Nat → Value) → World → Prop) : Nat → List Oper → Prop
  | _, [] => True
  | k, o :: rest => (∀ (K : Act → World → Prop) (L : Nat → Bool) (us : Nat → Value) (W : World),
      (∀ v A' W', A' = (putF A0 ds us).put (ds.getD k none) v → Below W.heap.size W W' → Pr k W' v → X (fun j => j == k || L j) (updF us k v) W' → K A' W') → L k = false → X L us W → Below B.heap.size B W →
      (∀ j, L j = true → Pr j W (us j)) →
      (∀ e ∈ o.after, Region.binds .any e = true → Pr e.on W (us e.on)) → wpList P ops (Exit.then K Q) [o] (putF A0 ds us) W) ∧ PtStepsX P ops Q A0 ds B Pr X (k + 1) rest
section
variable {P : Program} {Q : Exit → Act → World → Prop}
theorem two_firstX {ops : Array Oper} {A0 : Act} {ds : List (Option Nat)} {B : World} {Pr : Nat → World → Value → Prop} {X : (Nat → Bool) → (Nat → Value) → World → Prop} (hPr : ∀ j W W' v, Below W.heap.size W W' → Pr j W v → Pr j W' v) (c : Nat)
    (hX : ∀ L L' us W, (∀ j, j < c → L j = L' j) → X L us W → X L' us W) (hPc : ∀ j W v, c ≤ j → Pr j W v)
    (R2 : (Nat → Bool) → (Nat → Value) → World → Prop) : ∀ {l : List Oper} {k : Nat}, k + l.length ≤ c → backB k l = true → PtStepsX P ops Q A0 ds B Pr X k l →
    BySteps P ops Q A0 ds (fun L us W => ((∀ j, c ≤ j → j < ds.length → L j = false) ∧ Below B.heap.size B W ∧ (∀ j, j < c → L j = true → Pr j W (us j)) ∧ X L us W) ∨ ((∀ j, j < c → L j = true) ∧ R2 L us W)) k l
  | [], _, _, _, _ => trivial
  | o :: rest, k, hl, hb, hs => by
    simp only [List.length_cons] at hl
    simp only [backB, Bool.and_eq_true] at hb
    refine ⟨?_, two_firstX hPr c hX hPc R2 (by omega) hb.2 hs.2⟩
    intro K L us W hK hL hd hR
    rcases hR with ⟨hn, hB, hp, hx⟩ | ⟨ha, _⟩
    · have hdep : ∀ e ∈ o.after, Region.binds .any e = true → L e.on = true := by
        intro e he hbi
        rw [Array.all_eq_true'] at hd
        have := hd e he
        rw [hbi] at this
        simpa using this
      have hlt : ∀ e ∈ o.after, Region.binds .any e = true → e.on < k := by
        intro e he hbi
        have hb1 := hb.1
        rw [Array.all_eq_true'] at hb1
        have := hb1 e he
        rw [hbi] at this
        simpa using this
      refine hs.1 K L us W ?_ hL hx hB (fun j hj => ?_) ?_
      · intro v A' W' hA hB' hv hx'
        refine hK v A' W' hA (Or.inl ⟨?_, hB.trans (hB'.mono hB.size), ?_, hx'⟩)
        · intro j hj hjn
          have h1 := hn j hj hjn
          simp [h1]
          omega
        · intro j hjc hj
          by_cases hjk : j = k
          · subst hjk; simpa [updF] using hv
          · simp only [updF, hjk, if_false]
            exact hPr j W W' _ hB' (hp j hjc (by simpa [hjk] using hj))
      · rcases Nat.lt_or_ge j c with h | h
        · exact hp j h hj
        · exact hPc j W _ h
      · intro e he hbi
        have := hlt e he hbi
        exact hp e.on (by omega) (hdep e he hbi)
    · rw [ha k (by omega)] at hL
      cases hL

theorem two_lastX {ops : Array Oper} {A0 : Act} {ds : List (Option Nat)} {B : World} {Pr : Nat → World → Value → Prop} {X : (Nat → Bool) → (Nat → Value) → World → Prop} (c : Nat)
    (R2 : (Nat → Bool) → (Nat → Value) → World → Prop)
    (h12 : ∀ L us W, (∀ j, j < c → L j = true) → (∀ j, c ≤ j → j < ds.length → L j = false) → Below B.heap.size B W → (∀ j, j < c → Pr j W (us j)) → X L us W → R2 L us W) : ∀ {l : List Oper} {k : Nat}, covers c l = true →
    BySteps P ops Q A0 ds R2 k l →
    BySteps P ops Q A0 ds (fun L us W => ((∀ j, c ≤ j → j < ds.length → L j = false) ∧ Below B.heap.size B W ∧ (∀ j, j < c → L j = true → Pr j W (us j)) ∧ X L us W) ∨ ((∀ j, j < c → L j = true) ∧ R2 L us W)) k l
  | [], _, _, _ => trivial
  | o :: rest, k, hc, hs => by
    simp only [covers, List.all_cons, Bool.and_eq_true] at hc
    refine ⟨?_, two_lastX c R2 h12 hc.2 hs.2⟩
    intro K L us W hK hL hd hR
    have hall : ∀ j, j < c → L j = true := by
      intro j hj
      have h1 := hc.1
      rw [List.all_eq_true] at h1
      have h2 := h1 j (List.mem_range.2 hj)
      rw [Array.any_eq_true'] at h2
      obtain ⟨e, he, h3⟩ := h2
      simp only [Bool.and_eq_true, beq_iff_eq] at h3
      rw [Array.all_eq_true'] at hd
      have h4 := hd e he
      rw [h3.1, h3.2] at h4
      simpa using h4
    have hR2 : R2 L us W := by
      rcases hR with ⟨hn, hB, hp, hx⟩ | ⟨_, h⟩
      · exact h12 L us W hall hn hB (fun j hj => hp j hj (hall j hj)) hx
      · exact h
    refine hs.1 K L us W ?_ hL hd hR2
    intro v A' W' hA hR'
    exact hK v A' W' hA (Or.inr ⟨fun j hj => by simp [hall j hj], hR'⟩)

/-- A REGION THAT DRAWS ITS ORDER, IN TWO PARTS, with a relation X between the values of the first part. -/
theorem wp_region_twoX {id : Nat} {l : List Oper} {A0 : Act} {w : World} (hm : P.follows .mixedOrders = true) (hb : backB 0 l = true) (ds : List (Option Nat)) (hl : l.length = ds.length) (hds : (ds.filterMap _root_.id).Nodup)
    (c : Nat) (hcl : (l.take c).length ≤ c) (hb1 : backB 0 (l.take c) = true) (hcov : covers c (l.drop c) = true) (ps : List (World → Value → Prop)) (hps : StbL ps) (hpc : ps.length ≤ c)
    (X : (Nat → Bool) → (Nat → Value) → World → Prop) (hX : ∀ L L' us W, (∀ j, j < c → L j = L' j) → X L us W → X L' us W) (hX0 : X (fun _ => false) (selfF A0 ds) w.drew)
    (R2 : (Nat → Bool) → (Nat → Value) → World → Prop)
    (h12 : ∀ L us W, (∀ j, j < c → L j = true) → (∀ j, c ≤ j → j < ds.length → L j = false) → Below w.heap.size w W → (∀ j, j < c → ps.getD j (fun _ _ => True) W (us j)) → X L us W → R2 L us W)
    (hs1 : PtStepsX P l.toArray Q A0 ds w (fun j => ps.getD j (fun _ _ => True)) X 0 (l.take c)) (hs2 : BySteps P l.toArray Q A0 ds R2 (l.take c).length (l.drop c))
    (hend : ∀ L us W, (∀ j, j < ds.length → L j = true) → R2 L us W → Q .normal (putF A0 ds us) W) (hcn : c < ds.length) : (Code.region id l.toArray true).wp P Q A0 w := by
  refine wp_region_by hm hb ds hl hds (fun L us W => ((∀ j, c ≤ j → j < ds.length → L j = false) ∧ Below w.heap.size w W ∧ (∀ j, j < c → L j = true → ps.getD j (fun _ _ => True) W (us j)) ∧ X L us W) ∨ ((∀ j, j < c → L j = true) ∧ R2 L us W)) (selfF A0 ds) (putF_self A0 ds) (Or.inl ⟨fun _ _ _ => rfl, (Below.refl _ _).drew, by simp, hX0⟩) ?_ ?_
  · have hpc' : ∀ j W v, c ≤ j → (fun j => ps.getD j (fun (_ : World) (_ : Value) => True)) j W v := by
      intro j W v hj
      show ps.getD j (fun (_ : World) (_ : Value) => True) W v
      rw [List.getD_eq_getElem?_getD, List.getElem?_eq_none (by omega)]
      trivial
    have h1 := two_firstX (ops := l.toArray) (Q := Q) (A0 := A0) (ds := ds) (B := w) (X := X) hps.at c hX hpc' R2 (k := 0) (l := l.take c) (by omega) hb1 hs1
    have h2 := two_lastX (ops := l.toArray) (Q := Q) (A0 := A0) (ds := ds) (B := w) (Pr := fun j => ps.getD j (fun _ _ => True)) (X := X) c R2 h12 (k := (l.take c).length) hcov hs2
    have h3 := BySteps.append h1 (by rw [Nat.zero_add]; exact h2)
    rw [List.take_append_drop] at h3
    exact h3
  · rintro L us W hL (⟨hn, _, _⟩ | ⟨_, h⟩)
    · have := hn c (Nat.le_refl _) hcn
      rw [hL c hcn] at this
      cases this
    · exact hend L us W hL h
end
end Go.Proofs.Ytpablkmdpoombaa
namespace Go.Proofs.Ytpablkmdpoombaa
open Go.RowKit
section
variable {P : Program} {Q : Exit → Act → World → Prop}
end
end Go.Proofs.Ytpablkmdpoombaa
namespace Go.Proofs.Ytpablkmdpoombaa
open Go.RowKit

section
variable {P : Program} {Q : Exit → Act → World → Prop}
end
end Go.Proofs.Ytpablkmdpoombaa

/- Core -/
namespace Go.Proofs.Ytpablkmdpoombaa
open Go.RowKit

theorem inB_step {zs : List Int} {p : Int → Bool} {k : Nat} (hk : k < zs.length) (h : (zs.take k).all p = true) : (zs.take (k + 1)).all p = p (zs.getD k 0) := by
  rw [List.take_succ_eq_append_getElem hk, List.all_append, h]
  simp [List.getD_eq_getElem?_getD, List.getElem?_eq_getElem hk]
theorem inB_stop {zs : List Int} {p : Int → Bool} {k : Nat} (hk : k < zs.length) (h : p (zs.getD k 0) = false) : zs.all p = false := by
  rw [List.all_eq_false]
  refine ⟨zs[k], List.getElem_mem hk, ?_⟩
  rw [List.getD_eq_getElem?_getD, List.getElem?_eq_getElem hk] at h
  simpa using h
theorem any_step {zs : List Int} {p : Int → Bool} {k : Nat} (hk : k < zs.length) : (zs.take (k + 1)).any p = ((zs.take k).any p || p (zs.getD k 0)) := by
  rw [List.take_succ_eq_append_getElem hk, List.any_append]
  simp [List.getD_eq_getElem?_getD, List.getElem?_eq_getElem hk]

theorem nfrom_any (a b c : Int) (w : World) :
    Calls Try.prog 89 #[.int .i64 a, .int .i64 b, .int .i64 c] w fun e w' => e = .returned (.bool (inB a c b)) ∧ w = w' := by
  by_cases h1 : a ≤ b <;> by_cases h2 : b ≤ c
  all_goals
    go_enter Try.func89, Try.ntmps89
    go_wp2
    go_ret
    simp [inB, *]

set_option maxHeartbeats 400000 in
theorem nwithin_any (lo hi : Int) (b off n c : Nat) (zs : List Int) (w : World) (hn : n = zs.length) (hm : n ≤ 4611686018427387904)
    (hc : ∀ i, i < n → w.cell? ⟨b, off + i, none⟩ = some (.int .i64 (zs.getD i 0))) :
    Calls Try.prog 87 #[.int .i64 lo, .int .i64 hi, .slice (some ⟨b, off, none⟩) n c] w fun e w' => e = .returned (.bool (zs.all (inB lo hi))) ∧ w = w' := by
  have HN := hid hn; clear hn
  go_enter Try.func87, Try.ntmps87
  go_wp2
  go_loop [11] (fun i => ∃ k : Nat, k ≤ n ∧ i = .int .i64 k ∧ (zs.take k).all (inB lo hi) = true) (fun i => n - (intOf i).toNat)
  case atStart => exact ⟨0, Nat.zero_le _, rfl, rfl⟩
  case round =>
    obtain ⟨k, hk, rfl, hall⟩ := hrel
    have HA := hid hall; clear hall
    by_cases hlt : k < n
    · have hcell := hc k hlt
      have hlt2 : k < zs.length := by rw [← HN.out]; exact hlt
      have hsn := hid (inB_step hlt2 HA.out)
      have hst := @inB_stop zs (inB lo hi) k hlt2
      have HST := hid hst
      clear hc hst hlt2
      generalize zs.getD k 0 = z at *
      by_cases h1 : z < lo
      · go_wp2
        go_ret
        refine ⟨?_, rfl⟩
        rw [HST.out (by simp [inB]; omega)]; rfl
      · by_cases h2 : hi < z
        · go_wp2
          go_ret
          refine ⟨?_, rfl⟩
          rw [HST.out (by simp [inB]; omega)]; rfl
        · go_wp2
          go_round
          case rel => exact ⟨k + 1, by omega, by go_num, by rw [hsn.out]; simp [inB]; omega⟩
          case measure => simp [intOf]; omega
    · clear hc
      go_wp2
      go_ret
      refine ⟨?_, rfl⟩
      have h1 := HN.out
      have h2 := HA.out
      rw [List.take_of_length_le (by omega)] at h2
      rw [h2]; rfl

/-- not all are 0 -/
def nz (z : Int) : Bool := !(z == 0)

theorem index4_0 (a b c d : Int) (w : World) : (Instr.index 35 (.agg #[.int .i64 a, .int .i64 b, .int .i64 c, .int .i64 d]) (.int .i64 0)).run Try.prog w = .ok (.int .i64 a) w := by kernel_rfl
theorem index4_1 (a b c d : Int) (w : World) : (Instr.index 35 (.agg #[.int .i64 a, .int .i64 b, .int .i64 c, .int .i64 d]) (.int .i64 1)).run Try.prog w = .ok (.int .i64 b) w := by kernel_rfl
theorem index4_2 (a b c d : Int) (w : World) : (Instr.index 35 (.agg #[.int .i64 a, .int .i64 b, .int .i64 c, .int .i64 d]) (.int .i64 2)).run Try.prog w = .ok (.int .i64 c) w := by kernel_rfl
theorem index4_3 (a b c d : Int) (w : World) : (Instr.index 35 (.agg #[.int .i64 a, .int .i64 b, .int .i64 c, .int .i64 d]) (.int .i64 3)).run Try.prog w = .ok (.int .i64 d) w := by kernel_rfl
theorem index4 (a b c d : Int) (k : Nat) (hk : k < 4) (w : World) :
    (Instr.index 35 (.agg #[.int .i64 a, .int .i64 b, .int .i64 c, .int .i64 d]) (.int .i64 (k : Int))).run Try.prog w = .ok (.int .i64 ([a, b, c, d].getD k 0)) w := by
  match k, hk with
  | 0, _ => exact index4_0 a b c d w
  | 1, _ => exact index4_1 a b c d w
  | 2, _ => exact index4_2 a b c d w
  | 3, _ => exact index4_3 a b c d w

/-- the elements are within the limit, and not all are 0 -/
def turnB (l a b c d : Int) : Bool := [a, b, c, d].all (inB (-l) l) && [a, b, c, d].any nz
theorem turnB_no {l a b c d : Int} (h : [a, b, c, d].all (inB (-l) l) = false) : turnB l a b c d = false := by unfold turnB; rw [h]; rfl
theorem turnB_of {l a b c d : Int} {sb : Bool} (h : ([a, b, c, d].take 4).all (inB (-l) l) = true) (hs : sb = ([a, b, c, d].take 4).any nz) : turnB l a b c d = sb := by
  unfold turnB; simp only [List.take_succ_cons, List.take_zero] at h hs; rw [h, ← hs]; rfl

set_option maxHeartbeats 400000 in
theorem turns_any (l a b c d : Int) (hl : 0 ≤ l ∧ l ≤ 1000000000) (w : World) :
    Calls Try.prog 122 #[.agg #[.int .i64 a, .int .i64 b, .int .i64 c, .int .i64 d], .int .i64 l] w
      fun e w' => e = .returned (.bool (turnB l a b c d)) ∧ Below w.heap.size w w' := by
  go_enter Try.func122, Try.ntmps122
  go_wp2
  go_loop [5, 9] (fun s i => ∃ (k : Nat) (sb : Bool), k ≤ 4 ∧ i = .int .i64 k ∧ s = .bool sb ∧ ([a, b, c, d].take k).all (inB (-l) l) = true ∧ sb = ([a, b, c, d].take k).any nz) (fun _ i => 4 - (intOf i).toNat)
  case atStart => exact ⟨0, false, by omega, rfl, rfl, rfl, rfl⟩
  case round =>
    obtain ⟨k, sb, hk, rfl, rfl, hall, hsb⟩ := hrel
    have HA := hid hall; clear hall
    have HS := hid hsb; clear hsb
    by_cases hlt : k < 4
    · have hix := index4 a b c d k hlt
      have hsn := hid (inB_step (zs := [a, b, c, d]) hlt HA.out)
      have HST := hid (@inB_stop [a, b, c, d] (inB (-l) l) k hlt)
      have HAN := hid (any_step (zs := [a, b, c, d]) (p := nz) hlt)
      generalize [a, b, c, d].getD k 0 = z at *
      by_cases h1 : inB (-l) l z = true
      · have h1' := hid h1; clear h1
        cases sb
        · by_cases hz : z = 0
          · have hz' := hid hz; clear hz
            have hzz : (z != 0) = false := by simp [hz'.out]
            go_wp2_with (go_at_call 89; refine (nfrom_any _ _ _ _).mono ?_; rintro e w' ⟨rfl, rfl⟩; rw [h1'.out])
            go_round
            case rel => exact ⟨k + 1, false, by omega, by go_num, rfl, by rw [hsn.out]; exact h1'.out, by rw [HAN.out, ← HS.out, hz'.out]; rfl⟩
            case measure => simp [intOf]; omega
          · have hzz : (z != 0) = true := by simp [hz]
            have hz' := hid hz; clear hz
            go_wp2_with (go_at_call 89; refine (nfrom_any _ _ _ _).mono ?_; rintro e w' ⟨rfl, rfl⟩; rw [h1'.out])
            go_round
            case rel => exact ⟨k + 1, true, by omega, by go_num, rfl, by rw [hsn.out]; exact h1'.out, by rw [HAN.out, ← HS.out]; simp [nz, hz'.out]⟩
            case measure => simp [intOf]; omega
        · go_wp2_with (go_at_call 89; refine (nfrom_any _ _ _ _).mono ?_; rintro e w' ⟨rfl, rfl⟩; rw [h1'.out])
          go_round
          case rel => exact ⟨k + 1, true, by omega, by go_num, rfl, by rw [hsn.out]; exact h1'.out, by rw [HAN.out, ← HS.out]; rfl⟩
          case measure => simp [intOf]; omega
      · have h1' := hid (Bool.eq_false_iff.2 h1)
        clear h1
        go_wp2_with (go_at_call 89; refine (nfrom_any _ _ _ _).mono ?_; rintro e w' ⟨rfl, rfl⟩; rw [h1'.out])
        go_ret
        refine ⟨by rw [turnB_no (HST.out h1'.out)]; rfl, ?_⟩
        (repeat' (first | (with_reducible exact Below.refl _ _) | (with_reducible assumption) | (with_reducible refine Below.alloc ?_ ?_ _) | (with_reducible refine Below.drew ?_) | (with_reducible refine below_drewN ?_ _) | (with_reducible refine Below.setCell ?_ ?_ _) | (with_reducible refine below_setRow ?_ ?_ _) | go_size))
    · have : k = 4 := by omega
      subst this
      go_wp2
      go_ret
      refine ⟨?_, ?_⟩
      · rw [turnB_of HA.out HS.out]; rfl
      · (repeat' (first | (with_reducible exact Below.refl _ _) | (with_reducible assumption) | (with_reducible refine Below.alloc ?_ ?_ _) | (with_reducible refine Below.drew ?_) | (with_reducible refine below_drewN ?_ _) | (with_reducible refine Below.setCell ?_ ?_ _) | (with_reducible refine below_setRow ?_ ?_ _) | go_size))
end Go.Proofs.Ytpablkmdpoombaa

/- Prod -/
namespace Go.Proofs.Ytpablkmdpoombaa
open Go.RowKit
/-- four integers within a limit -/
def ok4 (l a b c d : Int) : Bool := [a, b, c, d].all (inB (-l) l)
theorem ok4_iff {l a b c d : Int} : ok4 l a b c d = true ↔ (-l ≤ a ∧ a ≤ l) ∧ (-l ≤ b ∧ b ≤ l) ∧ (-l ≤ c ∧ c ≤ l) ∧ (-l ≤ d ∧ d ≤ l) := by
  simp [ok4, inB]

end Go.Proofs.Ytpablkmdpoombaa

/- Flat -/
namespace Go.Proofs.Ytpablkmdpoombaa
open Go.RowKit

section
variable {P : Program}

theorem equal_array {t e : TypeId} {n : Nat} {ks : List (Option IntKind)} (hu : P.underlying t = some (.array n e)) (h : flatOf P 10 t = some ks) (xs ys : List Value) (h1 : fits ks xs = true) (h2 : fits ks ys = true) (W : World) :
    (Op.equalIn 10000 t (.agg xs.toArray) (.agg ys.toArray)).run P W = .ok (sameL xs ys) W := by
  have := run_equal_flat W 10 t ks h 10000 (by omega) xs ys h1 h2
  simpa only [whole, hu] using this
/-- lists of integers as cells -/
def ints (l : List Int) : List Value := l.map (Value.int .i64)
theorem sameL_ints : ∀ {a b : List Int}, a.length = b.length → sameL (ints a) (ints b) = (a == b)
  | [], [], _ => rfl
  | x :: a, y :: b, h => by
    have h1 := sameL_ints (a := a) (b := b) (by simpa using h)
    simp only [ints] at h1
    simp [ints, sameL, sameV, h1]
  | [], _ :: _, h => by simp at h
  | _ :: _, [], h => by simp at h
end
end Go.Proofs.Ytpablkmdpoombaa

/- Beam -/
namespace Go.Proofs.Ytpablkmdpoombaa
open Go.RowKit
theorem flat22 : flatOf Try.prog 10 35 = some [some .i64, some .i64, some .i64, some .i64] := by kernel_rfl
theorem eq22 (a b c d e f g h : Int) (W : World) : (Op.equalIn 10000 35 (.agg #[.int .i64 a, .int .i64 b, .int .i64 c, .int .i64 d]) (.agg #[.int .i64 e, .int .i64 f, .int .i64 g, .int .i64 h])).run Try.prog W = .ok ([a, b, c, d] == [e, f, g, h]) W := by
  rw [equal_array Try.underlying35 flat22 [.int .i64 a, .int .i64 b, .int .i64 c, .int .i64 d] [.int .i64 e, .int .i64 f, .int .i64 g, .int .i64 h] rfl rfl W]
  rw [show sameL [.int .i64 a, .int .i64 b, .int .i64 c, .int .i64 d] [.int .i64 e, .int .i64 f, .int .i64 g, .int .i64 h] = ([a, b, c, d] == [e, f, g, h]) from sameL_ints (a := [a, b, c, d]) (b := [e, f, g, h]) rfl]
theorem nz_any {a b c d : Int} : [a, b, c, d].any nz = !([a, b, c, d] == [0, 0, 0, 0]) := by
  simp [nz]
theorem turnB_zero {l a b c d : Int} (h : ([a, b, c, d] == [0, 0, 0, 0]) = true) : turnB l a b c d = false := by
  unfold turnB; rw [nz_any, h, Bool.not_true, Bool.and_false]
theorem turnB_ok {l a b c d : Int} (h : ([a, b, c, d] == [0, 0, 0, 0]) = false) : turnB l a b c d = ok4 l a b c d := by
  unfold turnB ok4; rw [nz_any, h, Bool.not_false, Bool.and_true]

theorem turnB_bd {l a b c d : Int} (h : turnB l a b c d = true) : (-l ≤ a ∧ a ≤ l) ∧ (-l ≤ b ∧ b ≤ l) ∧ (-l ≤ c ∧ c ≤ l) ∧ (-l ≤ d ∧ d ≤ l) := by
  unfold turnB at h
  rw [Bool.and_eq_true] at h
  exact ok4_iff.1 h.1

theorem bcell {W w1 : World} (hb : Below W.heap.size W w1) : (∀ b o, b < W.heap.size → w1.cell? ⟨b, o, none⟩ = W.cell? ⟨b, o, none⟩) ∧ (∀ b o, b < W.heap.size → w1.frozen? ⟨b, o, none⟩ = W.frozen? ⟨b, o, none⟩) :=
  ⟨fun b o h => hb.cell (p := ⟨b, o, none⟩) h, fun b o h => hb.frozen (p := ⟨b, o, none⟩) h⟩
end Go.Proofs.Ytpablkmdpoombaa

/- Writes -/
namespace Go.Proofs.Ytpablkmdpoombaa
open Go.RowKit

theorem own_shape {w : World} {B : Nat} {e : TypeId} {s n : Nat} {v : Value} {xs : List Value} (h : w.ownsRow B e s v n xs) (hn : 0 < n) : ∃ g cap, v = .slice (some ⟨g, 0, none⟩) n cap ∧ B ≤ g := by
  obtain ⟨h1, h2⟩ := h
  rcases h2 with ⟨_, h0⟩ | ⟨g, cap, cur, hv, hg, _⟩
  · omega
  · exact ⟨g, cap, hv, hg⟩
theorem rSignedW_any (g n cap : Nat) (z : Int) (xs : List Nat) (w : World) (hown : w.ownsRow 0 5 1 (.slice (some ⟨g, 0, none⟩) n cap) n (u8s xs)) (hn : n ≤ 4096) (hn0 : 0 < n) (hz : -2305843009213693952 ≤ z ∧ z ≤ 2305843009213693951) :
    Calls Try.prog 78 #[.slice (some ⟨g, 0, none⟩) n cap, .int .i64 z] w fun e w' => (∃ v, e = .returned (.tuple #[v, .int .i64 0]) ∧ w'.ownsRow w.heap.size 5 1 v (xs ++ encN (zig z)).length (u8s (xs ++ encN (zig z)))) ∧ Below w.heap.size w w' := by
  by_cases h0 : z < 0
  · have H := hid (rNumber_any g n cap (zig z) xs w hown (Nat.le_trans hn (by decide)) hn0 (by unfold zig; rw [if_pos h0]; omega))
    have HE := hid (show ((zig z : Nat) : Int) = -2 * z - 1 by unfold zig; rw [if_pos h0]; omega)
    generalize zig z = q at *
    rw [HE.out] at H
    clear hown
    go_enter Try.func78, Try.ntmps78
    go_wp2_with fail
    refine H.out.mono ?_
    rintro r w1 ⟨⟨v, rfl, hown1⟩, hb⟩
    have HB := hid hb
    have HO := hid hown1
    clear hb hown1
    go_wp2_with fail
    go_ret2
    exact ⟨⟨_, rfl, HO.out⟩, HB.out⟩
  · have H := hid (rNumber_any g n cap (zig z) xs w hown (Nat.le_trans hn (by decide)) hn0 (by unfold zig; rw [if_neg h0]; omega))
    have HE := hid (show ((zig z : Nat) : Int) = 2 * z by unfold zig; rw [if_neg h0]; omega)
    generalize zig z = q at *
    rw [HE.out] at H
    clear hown
    go_enter Try.func78, Try.ntmps78
    go_wp2_with fail
    refine H.out.mono ?_
    rintro r w1 ⟨⟨v, rfl, hown1⟩, hb⟩
    have HB := hid hb
    have HO := hid hown1
    clear hb hown1
    go_wp2_with fail
    go_ret2
    exact ⟨⟨_, rfl, HO.out⟩, HB.out⟩

set_option maxRecDepth 100000 in
theorem rNumbers_any (g n cap lb lo lc m : Nat) (zs : List Int) (xs : List Nat) (w : World) (hown : w.ownsRow 0 5 1 (.slice (some ⟨g, 0, none⟩) n cap) n (u8s xs)) (hn : n ≤ 2000) (hn0 : 0 < n) (hz : ∀ z ∈ zs, 0 ≤ z ∧ z ≤ 4611686018427387903) (hm : zs.length = m) (hzl : m ≤ 10)
    (hl : ∀ i, i < m → w.cell? ⟨lb, lo + i, none⟩ = some (.int .i64 (zs.getD i 0))) (hlb : lb < w.heap.size) :
    Calls Try.prog 93 #[.slice (some ⟨g, 0, none⟩) n cap, .slice (some ⟨lb, lo, none⟩) m lc] w fun e w' => (∃ v, e = .returned v ∧ w'.ownsRow 0 5 1 v (xs ++ encs encU zs).length (u8s (xs ++ encs encU zs))) ∧ Below w.heap.size w w' := by
  have hlen : xs.length = n := by have := hown.1; simpa [u8s] using this
  have HO := hid hown
  have HZ := hid hz
  have HL := hid hl
  clear hown hz hl
  have HM := hid hm
  clear hm
  go_enter Try.func93, Try.ntmps93
  go_wp2_with fail
  go_loopw [0, 9] (fun v i wr => ∃ (k : Nat) (ys : List Nat), k ≤ m ∧ i = .int .i64 k ∧ ys = xs ++ encs encU (zs.take k) ∧ wr.ownsRow 0 5 1 v ys.length (u8s ys) ∧ Below w.heap.size w wr) (fun _ i _ => m - (intOf i).toNat)
  case atStart => exact ⟨0, xs, by omega, rfl, by simp [encs], by rw [hlen]; exact HO.out, Below.refl _ _⟩
  case round =>
    obtain ⟨k, ys, hk, rfl, he, hown2, hB⟩ := hrel
    have hyl : 0 < ys.length := by rw [he, List.length_append]; omega
    obtain ⟨g2, cap2, rfl, _⟩ := own_shape hown2 hyl
    have HB2 := hid hB
    have HO2 := hid hown2
    have HE := hid he
    by_cases hlt : k < m
    · have hkz : k < zs.length := by rw [HM.out]; exact hlt
      have hc : wr.cell? ⟨lb, lo + k, none⟩ = some (.int .i64 zs[k]) := by rw [hB.cell hlb, ← show zs.getD k 0 = zs[k] by simp [List.getD_eq_getElem?_getD, hkz]]; exact HL.out k hlt
      have hzk := HZ.out zs[k] (List.getElem_mem hkz)
      have hyb : ys.length ≤ 4096 := by
        have h1 := encs_len (f := encU) (m := 9) (zs.take k) (fun z hz => nat_len (HZ.out z (List.mem_of_mem_take hz)))
        rw [he, List.length_append]
        have h2 : (zs.take k).length ≤ 10 := by simp; omega
        omega
      have HST := hid (show xs ++ encs encU (zs.take (k + 1)) = ys ++ encU zs[k] by rw [encs_step hkz, he]; simp)
      clear he hB hown2
      generalize zs[k] = z at *
      go_wp2_with fail
      obtain ⟨q, rfl⟩ : ∃ q : Nat, z = q := ⟨z.toNat, by omega⟩
      refine (rNumber_any g2 _ cap2 q ys _ HO2.out (Nat.le_trans hyb (by decide)) hyl (by omega)).mono ?_
      rintro r w1 ⟨⟨v, rfl, hown3⟩, hb⟩
      have HB3 := hid (HB2.out.trans (hb.mono HB2.out.size))
      have HO3 := hid (own_base hown3 (Nat.zero_le _))
      clear hb hown3
      go_wp2_with fail
      go_roundw
      case rel => exact ⟨k + 1, _, by omega, by go_num, HST.out.symm, HO3.out, HB3.out⟩
      case measure => simp [intOf]; omega
    · obtain rfl : k = m := by omega
      have HF := hid (show xs ++ encs encU zs = ys by rw [he, List.take_of_length_le (Nat.le_of_eq HM.out)])
      clear he hB hown2
      go_wp2_with fail
      go_ret
      rw [HF.out]
      exact ⟨⟨_, rfl, HO2.out⟩, HB2.out⟩
set_option maxRecDepth 100000 in
theorem rSigneds_any (g n cap lb lo lc m : Nat) (zs : List Int) (xs : List Nat) (w : World) (hown : w.ownsRow 0 5 1 (.slice (some ⟨g, 0, none⟩) n cap) n (u8s xs)) (hn : n ≤ 2000) (hn0 : 0 < n) (hz : ∀ z ∈ zs, -2305843009213693952 ≤ z ∧ z ≤ 2305843009213693951) (hm : zs.length = m) (hzl : m ≤ 10)
    (hl : ∀ i, i < m → w.cell? ⟨lb, lo + i, none⟩ = some (.int .i64 (zs.getD i 0))) (hlb : lb < w.heap.size) :
    Calls Try.prog 95 #[.slice (some ⟨g, 0, none⟩) n cap, .slice (some ⟨lb, lo, none⟩) m lc] w fun e w' => (∃ v, e = .returned v ∧ w'.ownsRow 0 5 1 v (xs ++ encs encS zs).length (u8s (xs ++ encs encS zs))) ∧ Below w.heap.size w w' := by
  have hlen : xs.length = n := by have := hown.1; simpa [u8s] using this
  have HO := hid hown
  have HZ := hid hz
  have HL := hid hl
  clear hown hz hl
  have HM := hid hm
  clear hm
  go_enter Try.func95, Try.ntmps95
  go_wp2_with fail
  go_loopw [0, 9] (fun v i wr => ∃ (k : Nat) (ys : List Nat), k ≤ m ∧ i = .int .i64 k ∧ ys = xs ++ encs encS (zs.take k) ∧ wr.ownsRow 0 5 1 v ys.length (u8s ys) ∧ Below w.heap.size w wr) (fun _ i _ => m - (intOf i).toNat)
  case atStart => exact ⟨0, xs, by omega, rfl, by simp [encs], by rw [hlen]; exact HO.out, Below.refl _ _⟩
  case round =>
    obtain ⟨k, ys, hk, rfl, he, hown2, hB⟩ := hrel
    have hyl : 0 < ys.length := by rw [he, List.length_append]; omega
    obtain ⟨g2, cap2, rfl, _⟩ := own_shape hown2 hyl
    have HB2 := hid hB
    have HO2 := hid hown2
    have HE := hid he
    by_cases hlt : k < m
    · have hkz : k < zs.length := by rw [HM.out]; exact hlt
      have hc : wr.cell? ⟨lb, lo + k, none⟩ = some (.int .i64 zs[k]) := by rw [hB.cell hlb, ← show zs.getD k 0 = zs[k] by simp [List.getD_eq_getElem?_getD, hkz]]; exact HL.out k hlt
      have hzk := HZ.out zs[k] (List.getElem_mem hkz)
      have hyb : ys.length ≤ 4096 := by
        have h1 := encs_len (f := encS) (m := 9) (zs.take k) (fun z hz => zig_len (HZ.out z (List.mem_of_mem_take hz)))
        rw [he, List.length_append]
        have h2 : (zs.take k).length ≤ 10 := by simp; omega
        omega
      have HST := hid (show xs ++ encs encS (zs.take (k + 1)) = ys ++ encS zs[k] by rw [encs_step hkz, he]; simp)
      clear he hB hown2
      generalize zs[k] = z at *
      go_wp2_with fail
      refine (rSignedW_any g2 _ cap2 z ys _ HO2.out hyb hyl hzk).mono ?_
      rintro r w1 ⟨⟨v, rfl, hown3⟩, hb⟩
      have HB3 := hid (HB2.out.trans (hb.mono HB2.out.size))
      have HO3 := hid (own_base hown3 (Nat.zero_le _))
      clear hb hown3
      go_wp2_with fail
      go_roundw
      case rel => exact ⟨k + 1, _, by omega, by go_num, HST.out.symm, HO3.out, HB3.out⟩
      case measure => simp [intOf]; omega
    · obtain rfl : k = m := by omega
      have HF := hid (show xs ++ encs encS zs = ys by rw [he, List.take_of_length_le (Nat.le_of_eq HM.out)])
      clear he hB hown2
      go_wp2_with fail
      go_ret
      rw [HF.out]
      exact ⟨⟨_, rfl, HO2.out⟩, HB2.out⟩
end Go.Proofs.Ytpablkmdpoombaa

/- Box -/
namespace Go.Proofs.Ytpablkmdpoombaa
open Go.RowKit

theorem within1 (lo hi x : Int) (b c : Nat) (w : World) (hc : w.cell? ⟨b, 0, none⟩ = some (.int .i64 x)) :
    Calls Try.prog 87 #[.int .i64 lo, .int .i64 hi, .slice (some ⟨b, 0, none⟩) 1 c] w fun e w' => e = .returned (.bool (inB lo hi x)) ∧ w = w' := by
  refine (nwithin_any lo hi b 0 1 c [x] w rfl (by omega) ?_).mono ?_
  · intro i hi
    obtain rfl : i = 0 := by omega
    exact hc
  · rintro e w' ⟨rfl, rfl⟩
    simp
end Go.Proofs.Ytpablkmdpoombaa

/- Valid -/
namespace Go.Proofs.Ytpablkmdpoombaa
open Go.RowKit


def rulesB (a b c d : Int) : Bool := inB 1 10000000 a && inB 0 1000000 b && inB 0 100000 c && inB 0 10000000 d
def syncC (a b c : Int) : Bool := inB 0 1125899906842624 a && inB 0 1125899906842624 b && inB 0 100000 c
def syncB (a b c : Int) : Bool := [a, b].all (inB 0 1125899906842624) && inB 0 100000 c

theorem syncB_eq (a b c : Int) : syncB a b c = syncC a b c := by simp [syncB, syncC]

set_option maxRecDepth 100000 in
theorem xRules_any (a b c d : Int) (w : World) :
    Calls Try.prog 52 #[.agg #[.int .i64 a, .int .i64 b, .int .i64 c, .int .i64 d]] w fun e w' => e = .returned (.bool (rulesB a b c d)) ∧ Below w.heap.size w w' := by
  by_cases h1 : inB 1 10000000 a = true
  · by_cases h2 : inB 0 1000000 b = true
    · by_cases h3 : inB 0 100000 c = true
      · have HS := hid (show rulesB a b c d = inB 0 10000000 d by simp [rulesB, h1, h2, h3])
        have H1 := hid h1
        have H2 := hid h2
        have H3 := hid h3
        clear h1 h2 h3
        go_enter Try.func52, Try.ntmps52
        go_wp2_with fail
        refine (within1 _ _ (a) _ _ _ ?_).mono ?_
        focus first | (simp; done) | (simp [go_sem]; done)
        rintro r w1 ⟨rfl, rfl⟩
        rw [H1.out]
        go_wp2_with fail
        refine (within1 _ _ (b) _ _ _ ?_).mono ?_
        focus first | (simp; done) | (simp [go_sem]; done)
        rintro r w1 ⟨rfl, rfl⟩
        rw [H2.out]
        go_wp2_with fail
        refine (within1 _ _ (c) _ _ _ ?_).mono ?_
        focus first | (simp; done) | (simp [go_sem]; done)
        rintro r w1 ⟨rfl, rfl⟩
        rw [H3.out]
        go_wp2_with fail
        refine (within1 _ _ (d) _ _ _ ?_).mono ?_
        focus first | (simp; done) | (simp [go_sem]; done)
        rintro r w1 ⟨rfl, rfl⟩
        go_wp2_with fail
        go_ret
        refine ⟨by rw [HS.out]; rfl, ?_⟩
        (try have hB0 := HB.out)
        (repeat' (first | (with_reducible exact Below.refl _ _) | (with_reducible assumption) | (with_reducible refine Below.alloc ?_ ?_ _) | (with_reducible refine Below.drew ?_) | (with_reducible refine below_drewN ?_ _) | (with_reducible refine Below.setCell ?_ ?_ _) | (with_reducible refine below_setRow ?_ ?_ _) | go_size))
      · have HS := hid (show rulesB a b c d = false by simp [rulesB, h1, h2, h3])
        have H1 := hid h1
        have H2 := hid h2
        have H3 := hid (Bool.eq_false_iff.2 h3)
        clear h1 h2 h3
        go_enter Try.func52, Try.ntmps52
        go_wp2_with fail
        refine (within1 _ _ (a) _ _ _ ?_).mono ?_
        focus first | (simp; done) | (simp [go_sem]; done)
        rintro r w1 ⟨rfl, rfl⟩
        rw [H1.out]
        go_wp2_with fail
        refine (within1 _ _ (b) _ _ _ ?_).mono ?_
        focus first | (simp; done) | (simp [go_sem]; done)
        rintro r w1 ⟨rfl, rfl⟩
        rw [H2.out]
        go_wp2_with fail
        refine (within1 _ _ (c) _ _ _ ?_).mono ?_
        focus first | (simp; done) | (simp [go_sem]; done)
        rintro r w1 ⟨rfl, rfl⟩
        rw [H3.out]
        go_wp2_with fail
        go_ret
        refine ⟨by rw [HS.out]; rfl, ?_⟩
        (try have hB0 := HB.out)
        (repeat' (first | (with_reducible exact Below.refl _ _) | (with_reducible assumption) | (with_reducible refine Below.alloc ?_ ?_ _) | (with_reducible refine Below.drew ?_) | (with_reducible refine below_drewN ?_ _) | (with_reducible refine Below.setCell ?_ ?_ _) | (with_reducible refine below_setRow ?_ ?_ _) | go_size))
    · have HS := hid (show rulesB a b c d = false by simp [rulesB, h1, h2])
      have H1 := hid h1
      have H2 := hid (Bool.eq_false_iff.2 h2)
      clear h1 h2
      go_enter Try.func52, Try.ntmps52
      go_wp2_with fail
      refine (within1 _ _ (a) _ _ _ ?_).mono ?_
      focus first | (simp; done) | (simp [go_sem]; done)
      rintro r w1 ⟨rfl, rfl⟩
      rw [H1.out]
      go_wp2_with fail
      refine (within1 _ _ (b) _ _ _ ?_).mono ?_
      focus first | (simp; done) | (simp [go_sem]; done)
      rintro r w1 ⟨rfl, rfl⟩
      rw [H2.out]
      go_wp2_with fail
      go_ret
      refine ⟨by rw [HS.out]; rfl, ?_⟩
      (try have hB0 := HB.out)
      (repeat' (first | (with_reducible exact Below.refl _ _) | (with_reducible assumption) | (with_reducible refine Below.alloc ?_ ?_ _) | (with_reducible refine Below.drew ?_) | (with_reducible refine below_drewN ?_ _) | (with_reducible refine Below.setCell ?_ ?_ _) | (with_reducible refine below_setRow ?_ ?_ _) | go_size))
  · have HS := hid (show rulesB a b c d = false by simp [rulesB, h1])
    have H1 := hid (Bool.eq_false_iff.2 h1)
    clear h1
    go_enter Try.func52, Try.ntmps52
    go_wp2_with fail
    refine (within1 _ _ (a) _ _ _ ?_).mono ?_
    focus first | (simp; done) | (simp [go_sem]; done)
    rintro r w1 ⟨rfl, rfl⟩
    rw [H1.out]
    go_wp2_with fail
    go_ret
    refine ⟨by rw [HS.out]; rfl, ?_⟩
    (try have hB0 := HB.out)
    (repeat' (first | (with_reducible exact Below.refl _ _) | (with_reducible assumption) | (with_reducible refine Below.alloc ?_ ?_ _) | (with_reducible refine Below.drew ?_) | (with_reducible refine below_drewN ?_ _) | (with_reducible refine Below.setCell ?_ ?_ _) | (with_reducible refine below_setRow ?_ ?_ _) | go_size))
set_option maxRecDepth 100000 in
theorem rRules_any (a b c d : Int) (w : World) :
    Calls Try.prog 56 #[.agg #[.int .i64 a, .int .i64 b, .int .i64 c, .int .i64 d]] w fun e w' => e = .returned (.bool (rulesB a b c d)) ∧ Below w.heap.size w w' := by
  by_cases h1 : inB 1 10000000 a = true
  · by_cases h2 : inB 0 1000000 b = true
    · by_cases h3 : inB 0 100000 c = true
      · have HS := hid (show rulesB a b c d = inB 0 10000000 d by simp [rulesB, h1, h2, h3])
        have H1 := hid h1
        have H2 := hid h2
        have H3 := hid h3
        clear h1 h2 h3
        go_enter Try.func56, Try.ntmps56
        go_wp2_with fail
        refine (nfrom_any _ _ _ _).mono ?_
        rintro r w1 ⟨rfl, rfl⟩
        rw [H1.out]
        go_wp2_with fail
        refine (nfrom_any _ _ _ _).mono ?_
        rintro r w1 ⟨rfl, rfl⟩
        rw [H2.out]
        go_wp2_with fail
        refine (nfrom_any _ _ _ _).mono ?_
        rintro r w1 ⟨rfl, rfl⟩
        rw [H3.out]
        go_wp2_with fail
        refine (nfrom_any _ _ _ _).mono ?_
        rintro r w1 ⟨rfl, rfl⟩
        go_wp2_with fail
        go_ret
        refine ⟨by rw [HS.out]; rfl, ?_⟩
        (try have hB0 := HB.out)
        (repeat' (first | (with_reducible exact Below.refl _ _) | (with_reducible assumption) | (with_reducible refine Below.alloc ?_ ?_ _) | (with_reducible refine Below.drew ?_) | (with_reducible refine below_drewN ?_ _) | (with_reducible refine Below.setCell ?_ ?_ _) | (with_reducible refine below_setRow ?_ ?_ _) | go_size))
      · have HS := hid (show rulesB a b c d = false by simp [rulesB, h1, h2, h3])
        have H1 := hid h1
        have H2 := hid h2
        have H3 := hid (Bool.eq_false_iff.2 h3)
        clear h1 h2 h3
        go_enter Try.func56, Try.ntmps56
        go_wp2_with fail
        refine (nfrom_any _ _ _ _).mono ?_
        rintro r w1 ⟨rfl, rfl⟩
        rw [H1.out]
        go_wp2_with fail
        refine (nfrom_any _ _ _ _).mono ?_
        rintro r w1 ⟨rfl, rfl⟩
        rw [H2.out]
        go_wp2_with fail
        refine (nfrom_any _ _ _ _).mono ?_
        rintro r w1 ⟨rfl, rfl⟩
        rw [H3.out]
        go_wp2_with fail
        go_ret
        refine ⟨by rw [HS.out]; rfl, ?_⟩
        (try have hB0 := HB.out)
        (repeat' (first | (with_reducible exact Below.refl _ _) | (with_reducible assumption) | (with_reducible refine Below.alloc ?_ ?_ _) | (with_reducible refine Below.drew ?_) | (with_reducible refine below_drewN ?_ _) | (with_reducible refine Below.setCell ?_ ?_ _) | (with_reducible refine below_setRow ?_ ?_ _) | go_size))
    · have HS := hid (show rulesB a b c d = false by simp [rulesB, h1, h2])
      have H1 := hid h1
      have H2 := hid (Bool.eq_false_iff.2 h2)
      clear h1 h2
      go_enter Try.func56, Try.ntmps56
      go_wp2_with fail
      refine (nfrom_any _ _ _ _).mono ?_
      rintro r w1 ⟨rfl, rfl⟩
      rw [H1.out]
      go_wp2_with fail
      refine (nfrom_any _ _ _ _).mono ?_
      rintro r w1 ⟨rfl, rfl⟩
      rw [H2.out]
      go_wp2_with fail
      go_ret
      refine ⟨by rw [HS.out]; rfl, ?_⟩
      (try have hB0 := HB.out)
      (repeat' (first | (with_reducible exact Below.refl _ _) | (with_reducible assumption) | (with_reducible refine Below.alloc ?_ ?_ _) | (with_reducible refine Below.drew ?_) | (with_reducible refine below_drewN ?_ _) | (with_reducible refine Below.setCell ?_ ?_ _) | (with_reducible refine below_setRow ?_ ?_ _) | go_size))
  · have HS := hid (show rulesB a b c d = false by simp [rulesB, h1])
    have H1 := hid (Bool.eq_false_iff.2 h1)
    clear h1
    go_enter Try.func56, Try.ntmps56
    go_wp2_with fail
    refine (nfrom_any _ _ _ _).mono ?_
    rintro r w1 ⟨rfl, rfl⟩
    rw [H1.out]
    go_wp2_with fail
    go_ret
    refine ⟨by rw [HS.out]; rfl, ?_⟩
    (try have hB0 := HB.out)
    (repeat' (first | (with_reducible exact Below.refl _ _) | (with_reducible assumption) | (with_reducible refine Below.alloc ?_ ?_ _) | (with_reducible refine Below.drew ?_) | (with_reducible refine below_drewN ?_ _) | (with_reducible refine Below.setCell ?_ ?_ _) | (with_reducible refine below_setRow ?_ ?_ _) | go_size))
set_option maxRecDepth 100000 in
theorem xSync_any (a b c : Int) (w : World) :
    Calls Try.prog 85 #[.agg #[.int .i64 a, .int .i64 b, .int .i64 c]] w fun e w' => e = .returned (.bool (syncB a b c)) ∧ Below w.heap.size w w' := by
  by_cases h1 : [a, b].all (inB 0 1125899906842624) = true
  · have HS := hid (show syncB a b c = inB 0 100000 c by simp [syncB, h1])
    have H1 := hid h1
    clear h1
    go_enter Try.func85, Try.ntmps85
    go_wp2_with fail
    refine (nwithin_any _ _ _ _ _ _ [a, b] _ rfl (by simp) (cells_ints _ (by repeat' (first | (refine heap_alloc_at _ _ _ ?_; (first | rfl | (simp; done) | (simp; omega))) | (refine heap_alloc_past _ _ _ _ ?_))) rfl)).mono ?_
    rintro r w1 ⟨rfl, rfl⟩
    rw [H1.out]
    go_wp2_with fail
    refine (within1 _ _ (c) _ _ _ ?_).mono ?_
    focus first | (simp; done) | (simp [go_sem]; done)
    rintro r w1 ⟨rfl, rfl⟩
    go_wp2_with fail
    go_ret
    refine ⟨by rw [HS.out]; rfl, ?_⟩
    (try have hB0 := HB.out)
    (repeat' (first | (with_reducible exact Below.refl _ _) | (with_reducible assumption) | (with_reducible refine Below.alloc ?_ ?_ _) | (with_reducible refine Below.drew ?_) | (with_reducible refine below_drewN ?_ _) | (with_reducible refine Below.setCell ?_ ?_ _) | (with_reducible refine below_setRow ?_ ?_ _) | go_size))
  · have HS := hid (show syncB a b c = false by simp [syncB, h1])
    have H1 := hid (Bool.eq_false_iff.2 h1)
    clear h1
    go_enter Try.func85, Try.ntmps85
    go_wp2_with fail
    refine (nwithin_any _ _ _ _ _ _ [a, b] _ rfl (by simp) (cells_ints _ (by repeat' (first | (refine heap_alloc_at _ _ _ ?_; (first | rfl | (simp; done) | (simp; omega))) | (refine heap_alloc_past _ _ _ _ ?_))) rfl)).mono ?_
    rintro r w1 ⟨rfl, rfl⟩
    rw [H1.out]
    go_wp2_with fail
    go_ret
    refine ⟨by rw [HS.out]; rfl, ?_⟩
    (try have hB0 := HB.out)
    (repeat' (first | (with_reducible exact Below.refl _ _) | (with_reducible assumption) | (with_reducible refine Below.alloc ?_ ?_ _) | (with_reducible refine Below.drew ?_) | (with_reducible refine below_drewN ?_ _) | (with_reducible refine Below.setCell ?_ ?_ _) | (with_reducible refine below_setRow ?_ ?_ _) | go_size))
set_option maxRecDepth 100000 in
theorem rSync_any (a b c : Int) (w : World) :
    Calls Try.prog 92 #[.agg #[.int .i64 a, .int .i64 b, .int .i64 c]] w fun e w' => e = .returned (.bool (syncB a b c)) ∧ Below w.heap.size w w' := by
  rw [syncB_eq]
  by_cases h1 : inB 0 1125899906842624 a = true
  · by_cases h2 : inB 0 1125899906842624 b = true
    · have HS := hid (show syncC a b c = inB 0 100000 c by simp [syncC, h1, h2])
      have H1 := hid h1
      have H2 := hid h2
      clear h1 h2
      go_enter Try.func92, Try.ntmps92
      go_wp2_with fail
      refine (nfrom_any _ _ _ _).mono ?_
      rintro r w1 ⟨rfl, rfl⟩
      rw [H1.out]
      go_wp2_with fail
      refine (nfrom_any _ _ _ _).mono ?_
      rintro r w1 ⟨rfl, rfl⟩
      rw [H2.out]
      go_wp2_with fail
      refine (nfrom_any _ _ _ _).mono ?_
      rintro r w1 ⟨rfl, rfl⟩
      go_wp2_with fail
      go_ret
      refine ⟨by rw [HS.out]; rfl, ?_⟩
      (try have hB0 := HB.out)
      (repeat' (first | (with_reducible exact Below.refl _ _) | (with_reducible assumption) | (with_reducible refine Below.alloc ?_ ?_ _) | (with_reducible refine Below.drew ?_) | (with_reducible refine below_drewN ?_ _) | (with_reducible refine Below.setCell ?_ ?_ _) | (with_reducible refine below_setRow ?_ ?_ _) | go_size))
    · have HS := hid (show syncC a b c = false by simp [syncC, h1, h2])
      have H1 := hid h1
      have H2 := hid (Bool.eq_false_iff.2 h2)
      clear h1 h2
      go_enter Try.func92, Try.ntmps92
      go_wp2_with fail
      refine (nfrom_any _ _ _ _).mono ?_
      rintro r w1 ⟨rfl, rfl⟩
      rw [H1.out]
      go_wp2_with fail
      refine (nfrom_any _ _ _ _).mono ?_
      rintro r w1 ⟨rfl, rfl⟩
      rw [H2.out]
      go_wp2_with fail
      go_ret
      refine ⟨by rw [HS.out]; rfl, ?_⟩
      (try have hB0 := HB.out)
      (repeat' (first | (with_reducible exact Below.refl _ _) | (with_reducible assumption) | (with_reducible refine Below.alloc ?_ ?_ _) | (with_reducible refine Below.drew ?_) | (with_reducible refine below_drewN ?_ _) | (with_reducible refine Below.setCell ?_ ?_ _) | (with_reducible refine below_setRow ?_ ?_ _) | go_size))
  · have HS := hid (show syncC a b c = false by simp [syncC, h1])
    have H1 := hid (Bool.eq_false_iff.2 h1)
    clear h1
    go_enter Try.func92, Try.ntmps92
    go_wp2_with fail
    refine (nfrom_any _ _ _ _).mono ?_
    rintro r w1 ⟨rfl, rfl⟩
    rw [H1.out]
    go_wp2_with fail
    go_ret
    refine ⟨by rw [HS.out]; rfl, ?_⟩
    (try have hB0 := HB.out)
    (repeat' (first | (with_reducible exact Below.refl _ _) | (with_reducible assumption) | (with_reducible refine Below.alloc ?_ ?_ _) | (with_reducible refine Below.drew ?_) | (with_reducible refine below_drewN ?_ _) | (with_reducible refine Below.setCell ?_ ?_ _) | (with_reducible refine below_setRow ?_ ?_ _) | go_size))

def fixB (t x y z e a b c d g : Int) : Bool := inB 0 1125899906842624 t && [x, y, z].all (inB (-134217728) 134217728) && inB 0 100000 e && turnB 1000 a b c d && inB 0 1000000 g

set_option maxRecDepth 100000 in
theorem validTurn_any (a b c d : Int) (w : World) :
    Calls Try.prog 121 #[.agg #[.int .i64 a, .int .i64 b, .int .i64 c, .int .i64 d]] w fun e w' => e = .returned (.bool (turnB 1000 a b c d)) ∧ Below w.heap.size w w' := by
  have hq := eq22 a b c d 0 0 0 0
  by_cases hz : ([a, b, c, d] == [0, 0, 0, 0]) = true
  · have HT := hid (turnB_zero (l := 1000) hz)
    rw [hz] at hq
    clear hz
    go_enter Try.func121, Try.ntmps121
    go_wp2_with fail
    go_ret
    refine ⟨by rw [HT.out]; rfl, ?_⟩
    (repeat' (first | (with_reducible exact Below.refl _ _) | (with_reducible assumption) | (with_reducible refine Below.alloc ?_ ?_ _) | (with_reducible refine Below.drew ?_) | (with_reducible refine below_drewN ?_ _) | (with_reducible refine Below.setCell ?_ ?_ _) | (with_reducible refine below_setRow ?_ ?_ _) | go_size))
  · have hz' := Bool.eq_false_iff.2 hz
    have HT := hid (turnB_ok (l := 1000) hz')
    rw [hz'] at hq
    clear hz hz'
    go_enter Try.func121, Try.ntmps121
    go_wp2_with fail
    refine (nwithin_any _ _ _ _ _ _ [a, b, c, d] _ rfl (by simp) (cells_ints _ (by repeat' (first | (refine heap_alloc_at _ _ _ ?_; (first | rfl | (simp; done) | (simp; omega))) | (refine heap_alloc_past _ _ _ _ ?_))) rfl)).mono ?_
    rintro r w1 ⟨rfl, rfl⟩
    rw [show [a, b, c, d].all (inB (-1000) 1000) = ok4 1000 a b c d from rfl]
    go_wp2_with fail
    go_ret
    refine ⟨by rw [HT.out]; rfl, ?_⟩
    (repeat' (first | (with_reducible exact Below.refl _ _) | (with_reducible assumption) | (with_reducible refine Below.alloc ?_ ?_ _) | (with_reducible refine Below.drew ?_) | (with_reducible refine below_drewN ?_ _) | (with_reducible refine Below.setCell ?_ ?_ _) | (with_reducible refine below_setRow ?_ ?_ _) | go_size))

theorem cells_off {w : World} {b t o : Nat} {fr : Nat × Nat} {C : Array Value} (zs : List Int) (h : w.heap[b]? = some (.cells C t fr)) (hC : ∀ i, i < zs.length → C[o + i]? = some (.int .i64 (zs.getD i 0))) (i : Nat) (hi : i < zs.length) :
    w.cell? ⟨b, o + i, none⟩ = some (.int .i64 (zs.getD i 0)) := by rw [cell_row h]; exact hC i hi
theorem upto3 {p : Nat → Prop} (h0 : p 0) (h1 : p 1) (h2 : p 2) (i : Nat) (hi : i < 3) : p i := by
  match i, hi with
  | 0, _ => exact h0
  | 1, _ => exact h1
  | 2, _ => exact h2
theorem index3 (a b c : Int) (k : Nat) (hk : k < 3) (w : World) :
    (Instr.index 39 (.agg #[.int .i64 a, .int .i64 b, .int .i64 c]) (.int .i64 (k : Int))).run Try.prog w = .ok (.int .i64 ([a, b, c].getD k 0)) w := by
  refine upto3 (p := fun k => (Instr.index 39 (.agg #[.int .i64 a, .int .i64 b, .int .i64 c]) (.int .i64 (k : Int))).run Try.prog w = .ok (.int .i64 ([a, b, c].getD k 0)) w) ?_ ?_ ?_ k hk
  · kernel_rfl
  · kernel_rfl
  · kernel_rfl

set_option maxRecDepth 100000 in
set_option maxHeartbeats 800000 in
theorem xFix_any (t x y z e a b c d g : Int) (w : World) :
    Calls Try.prog 86 #[.agg #[.int .i64 t, .int .i64 x, .int .i64 y, .int .i64 z, .int .i64 e, .int .i64 a, .int .i64 b, .int .i64 c, .int .i64 d, .int .i64 g]] w fun r w' => r = .returned (.bool (fixB t x y z e a b c d g)) ∧ Below w.heap.size w w' := by
  by_cases h1 : inB 0 1125899906842624 t = true
  · by_cases h2 : [x, y, z].all (inB (-134217728) 134217728) = true
    · by_cases h3 : inB 0 100000 e = true
      · by_cases h4 : turnB 1000 a b c d = true
        · have HS := hid (show fixB t x y z e a b c d g = inB 0 1000000 g by simp [fixB, h1, h2, h3, h4])
          have H1 := hid h1
          have H2 := hid h2
          have H3 := hid h3
          have H4 := hid h4
          clear h1 h2 h3 h4
          go_enter Try.func86, Try.ntmps86
          go_wp2_with fail
          refine (within1 _ _ (t) _ _ _ ?_).mono ?_
          focus first | (simp; done) | (simp [go_sem]; done)
          rintro r w1 ⟨rfl, rfl⟩
          rw [H1.out]
          go_wp2_with fail
          refine (nwithin_any _ _ _ _ _ _ [x, y, z] _ rfl (by simp) (cells_off _ (by repeat' (first | (refine heap_alloc_at _ _ _ ?_; (first | rfl | (simp; done) | (simp; omega))) | (refine heap_alloc_past _ _ _ _ ?_))) (upto3 rfl rfl rfl))).mono ?_
          rintro r w1 ⟨rfl, rfl⟩
          rw [H2.out]
          go_wp2_with fail
          refine (within1 _ _ (e) _ _ _ ?_).mono ?_
          focus first | (simp; done) | (simp [go_sem]; done)
          rintro r w1 ⟨rfl, rfl⟩
          rw [H3.out]
          go_wp2_with fail
          refine (validTurn_any _ _ _ _ _).mono ?_
          rintro r w4 ⟨rfl, hb⟩
          have HB := hid ((by refine Below.trans ?_ (hb.mono ?_); (focus ((repeat' (first | (with_reducible exact Below.refl _ _) | (with_reducible assumption) | (with_reducible refine Below.alloc ?_ ?_ _) | (with_reducible refine Below.drew ?_) | (with_reducible refine below_drewN ?_ _) | (with_reducible refine Below.setCell ?_ ?_ _) | (with_reducible refine below_setRow ?_ ?_ _) | go_size)); done)); (focus (first | (simp; done) | (simp; omega)))) : Below w.heap.size w w4)
          have hsw4 := hb.size
          (try simp at hsw4)
          have hzw4 : w.heap.size < w4.heap.size := by omega
          obtain ⟨hcw4, hfw4⟩ := bcell hb
          clear hb
          rw [H4.out]
          go_wp2_with fail
          refine (within1 _ _ (g) _ _ _ ?_).mono ?_
          focus first | (simp; done) | (simp [go_sem]; done)
          rintro r w1 ⟨rfl, rfl⟩
          go_wp2_with fail
          go_ret
          refine ⟨by rw [HS.out]; rfl, ?_⟩
          (try have hB0 := HB.out)
          (repeat' (first | (with_reducible exact Below.refl _ _) | (with_reducible assumption) | (with_reducible refine Below.alloc ?_ ?_ _) | (with_reducible refine Below.drew ?_) | (with_reducible refine below_drewN ?_ _) | (with_reducible refine Below.setCell ?_ ?_ _) | (with_reducible refine below_setRow ?_ ?_ _) | go_size))
        · have HS := hid (show fixB t x y z e a b c d g = false by simp [fixB, h1, h2, h3, h4])
          have H1 := hid h1
          have H2 := hid h2
          have H3 := hid h3
          have H4 := hid (Bool.eq_false_iff.2 h4)
          clear h1 h2 h3 h4
          go_enter Try.func86, Try.ntmps86
          go_wp2_with fail
          refine (within1 _ _ (t) _ _ _ ?_).mono ?_
          focus first | (simp; done) | (simp [go_sem]; done)
          rintro r w1 ⟨rfl, rfl⟩
          rw [H1.out]
          go_wp2_with fail
          refine (nwithin_any _ _ _ _ _ _ [x, y, z] _ rfl (by simp) (cells_off _ (by repeat' (first | (refine heap_alloc_at _ _ _ ?_; (first | rfl | (simp; done) | (simp; omega))) | (refine heap_alloc_past _ _ _ _ ?_))) (upto3 rfl rfl rfl))).mono ?_
          rintro r w1 ⟨rfl, rfl⟩
          rw [H2.out]
          go_wp2_with fail
          refine (within1 _ _ (e) _ _ _ ?_).mono ?_
          focus first | (simp; done) | (simp [go_sem]; done)
          rintro r w1 ⟨rfl, rfl⟩
          rw [H3.out]
          go_wp2_with fail
          refine (validTurn_any _ _ _ _ _).mono ?_
          rintro r w4 ⟨rfl, hb⟩
          have HB := hid ((by refine Below.trans ?_ (hb.mono ?_); (focus ((repeat' (first | (with_reducible exact Below.refl _ _) | (with_reducible assumption) | (with_reducible refine Below.alloc ?_ ?_ _) | (with_reducible refine Below.drew ?_) | (with_reducible refine below_drewN ?_ _) | (with_reducible refine Below.setCell ?_ ?_ _) | (with_reducible refine below_setRow ?_ ?_ _) | go_size)); done)); (focus (first | (simp; done) | (simp; omega)))) : Below w.heap.size w w4)
          have hsw4 := hb.size
          (try simp at hsw4)
          have hzw4 : w.heap.size < w4.heap.size := by omega
          obtain ⟨hcw4, hfw4⟩ := bcell hb
          clear hb
          rw [H4.out]
          go_wp2_with fail
          go_ret
          refine ⟨by rw [HS.out]; rfl, ?_⟩
          (try have hB0 := HB.out)
          (repeat' (first | (with_reducible exact Below.refl _ _) | (with_reducible assumption) | (with_reducible refine Below.alloc ?_ ?_ _) | (with_reducible refine Below.drew ?_) | (with_reducible refine below_drewN ?_ _) | (with_reducible refine Below.setCell ?_ ?_ _) | (with_reducible refine below_setRow ?_ ?_ _) | go_size))
      · have HS := hid (show fixB t x y z e a b c d g = false by simp [fixB, h1, h2, h3])
        have H1 := hid h1
        have H2 := hid h2
        have H3 := hid (Bool.eq_false_iff.2 h3)
        clear h1 h2 h3
        go_enter Try.func86, Try.ntmps86
        go_wp2_with fail
        refine (within1 _ _ (t) _ _ _ ?_).mono ?_
        focus first | (simp; done) | (simp [go_sem]; done)
        rintro r w1 ⟨rfl, rfl⟩
        rw [H1.out]
        go_wp2_with fail
        refine (nwithin_any _ _ _ _ _ _ [x, y, z] _ rfl (by simp) (cells_off _ (by repeat' (first | (refine heap_alloc_at _ _ _ ?_; (first | rfl | (simp; done) | (simp; omega))) | (refine heap_alloc_past _ _ _ _ ?_))) (upto3 rfl rfl rfl))).mono ?_
        rintro r w1 ⟨rfl, rfl⟩
        rw [H2.out]
        go_wp2_with fail
        refine (within1 _ _ (e) _ _ _ ?_).mono ?_
        focus first | (simp; done) | (simp [go_sem]; done)
        rintro r w1 ⟨rfl, rfl⟩
        rw [H3.out]
        go_wp2_with fail
        go_ret
        refine ⟨by rw [HS.out]; rfl, ?_⟩
        (try have hB0 := HB.out)
        (repeat' (first | (with_reducible exact Below.refl _ _) | (with_reducible assumption) | (with_reducible refine Below.alloc ?_ ?_ _) | (with_reducible refine Below.drew ?_) | (with_reducible refine below_drewN ?_ _) | (with_reducible refine Below.setCell ?_ ?_ _) | (with_reducible refine below_setRow ?_ ?_ _) | go_size))
    · have HS := hid (show fixB t x y z e a b c d g = false by simp [fixB, h1, h2])
      have H1 := hid h1
      have H2 := hid (Bool.eq_false_iff.2 h2)
      clear h1 h2
      go_enter Try.func86, Try.ntmps86
      go_wp2_with fail
      refine (within1 _ _ (t) _ _ _ ?_).mono ?_
      focus first | (simp; done) | (simp [go_sem]; done)
      rintro r w1 ⟨rfl, rfl⟩
      rw [H1.out]
      go_wp2_with fail
      refine (nwithin_any _ _ _ _ _ _ [x, y, z] _ rfl (by simp) (cells_off _ (by repeat' (first | (refine heap_alloc_at _ _ _ ?_; (first | rfl | (simp; done) | (simp; omega))) | (refine heap_alloc_past _ _ _ _ ?_))) (upto3 rfl rfl rfl))).mono ?_
      rintro r w1 ⟨rfl, rfl⟩
      rw [H2.out]
      go_wp2_with fail
      go_ret
      refine ⟨by rw [HS.out]; rfl, ?_⟩
      (try have hB0 := HB.out)
      (repeat' (first | (with_reducible exact Below.refl _ _) | (with_reducible assumption) | (with_reducible refine Below.alloc ?_ ?_ _) | (with_reducible refine Below.drew ?_) | (with_reducible refine below_drewN ?_ _) | (with_reducible refine Below.setCell ?_ ?_ _) | (with_reducible refine below_setRow ?_ ?_ _) | go_size))
  · have HS := hid (show fixB t x y z e a b c d g = false by simp [fixB, h1])
    have H1 := hid (Bool.eq_false_iff.2 h1)
    clear h1
    go_enter Try.func86, Try.ntmps86
    go_wp2_with fail
    refine (within1 _ _ (t) _ _ _ ?_).mono ?_
    focus first | (simp; done) | (simp [go_sem]; done)
    rintro r w1 ⟨rfl, rfl⟩
    rw [H1.out]
    go_wp2_with fail
    go_ret
    refine ⟨by rw [HS.out]; rfl, ?_⟩
    (try have hB0 := HB.out)
    (repeat' (first | (with_reducible exact Below.refl _ _) | (with_reducible assumption) | (with_reducible refine Below.alloc ?_ ?_ _) | (with_reducible refine Below.drew ?_) | (with_reducible refine below_drewN ?_ _) | (with_reducible refine Below.setCell ?_ ?_ _) | (with_reducible refine below_setRow ?_ ?_ _) | go_size))

set_option maxRecDepth 100000 in
set_option maxHeartbeats 800000 in
theorem rFix_any (t x y z e a b c d g : Int) (w : World) :
    Calls Try.prog 94 #[.agg #[.int .i64 t, .int .i64 x, .int .i64 y, .int .i64 z, .int .i64 e, .int .i64 a, .int .i64 b, .int .i64 c, .int .i64 d, .int .i64 g]] w fun r w' => r = .returned (.bool (fixB t x y z e a b c d g)) ∧ Below w.heap.size w w' := by
  have HBAD := hid (show [x, y, z].all (inB (-134217728) 134217728) = false → fixB t x y z e a b c d g = false from fun h => by unfold fixB; rw [h]; simp only [Bool.and_false, Bool.false_and])
  go_enter Try.func94, Try.ntmps94
  go_wp2_with fail
  go_loop [7] (fun i => ∃ (k : Nat), k ≤ 3 ∧ i = .int .i64 k ∧ ([x, y, z].take k).all (inB (-134217728) 134217728) = true) (fun i => 3 - (intOf i).toNat)
  case atStart => exact ⟨0, by omega, rfl, rfl⟩
  case round =>
    obtain ⟨k, hk, rfl, hall⟩ := hrel
    have HA := hid hall; clear hall
    by_cases hlt : k < 3
    · have hix := index3 x y z k hlt
      have hsn := hid (inB_step (zs := [x, y, z]) hlt HA.out)
      have HST := hid (@inB_stop [x, y, z] (inB (-134217728) 134217728) k hlt)
      generalize [x, y, z].getD k 0 = v at *
      by_cases h1 : inB (-134217728) 134217728 v = true
      · have h1' := hid h1; clear h1
        go_wp2_with fail
        refine (nfrom_any _ _ _ _).mono ?_
        rintro r w1 ⟨rfl, rfl⟩
        rw [h1'.out]
        go_wp2_with fail
        go_round
        case rel => exact ⟨k + 1, by omega, by go_num, by rw [hsn.out]; exact h1'.out⟩
        case measure => simp [intOf]; omega
      · have h1' := hid (Bool.eq_false_iff.2 h1); clear h1
        go_wp2_with fail
        refine (nfrom_any _ _ _ _).mono ?_
        rintro r w1 ⟨rfl, rfl⟩
        rw [h1'.out]
        go_wp2_with fail
        go_ret
        refine ⟨by rw [HBAD.out (HST.out h1'.out)]; rfl, ?_⟩
        (repeat' (first | (with_reducible exact Below.refl _ _) | (with_reducible assumption) | (with_reducible refine Below.alloc ?_ ?_ _) | (with_reducible refine Below.drew ?_) | (with_reducible refine below_drewN ?_ _) | (with_reducible refine Below.setCell ?_ ?_ _) | (with_reducible refine below_setRow ?_ ?_ _) | go_size))
    · obtain rfl : k = 3 := by omega
      have hp : [x, y, z].all (inB (-134217728) 134217728) = true := HA.out
      have HC := hid (show fixB t x y z e a b c d g = (inB 0 1125899906842624 t && inB 0 100000 e && turnB 1000 a b c d && inB 0 1000000 g) by unfold fixB; rw [hp, Bool.and_true])
      clear hp
      by_cases h1 : inB 0 1125899906842624 t = true
      · by_cases h2 : inB 0 100000 e = true
        · by_cases h3 : turnB 1000 a b c d = true
          · have HS := hid (show fixB t x y z e a b c d g = inB 0 1000000 g by simp [HC.out, h1, h2, h3])
            have H1 := hid h1
            have H2 := hid h2
            have H3 := hid h3
            clear h1 h2 h3
            go_wp2_with fail
            refine (nfrom_any _ _ _ _).mono ?_
            rintro r w1 ⟨rfl, rfl⟩
            rw [H1.out]
            go_wp2_with fail
            refine (nfrom_any _ _ _ _).mono ?_
            rintro r w1 ⟨rfl, rfl⟩
            rw [H2.out]
            go_wp2_with fail
            refine (turns_any _ _ _ _ _ (by omega) _).mono ?_
            rintro r w4 ⟨rfl, hb⟩
            have HB := hid ((by refine Below.trans ?_ (hb.mono ?_); (focus ((repeat' (first | (with_reducible exact Below.refl _ _) | (with_reducible assumption) | (with_reducible refine Below.alloc ?_ ?_ _) | (with_reducible refine Below.drew ?_) | (with_reducible refine below_drewN ?_ _) | (with_reducible refine Below.setCell ?_ ?_ _) | (with_reducible refine below_setRow ?_ ?_ _) | go_size)); done)); (focus (first | (simp; done) | (simp; omega)))) : Below w.heap.size w w4)
            have hsw4 := hb.size
            (try simp at hsw4)
            have hzw4 : w.heap.size < w4.heap.size := by omega
            obtain ⟨hcw4, hfw4⟩ := bcell hb
            clear hb
            rw [H3.out]
            go_wp2_with fail
            refine (nfrom_any _ _ _ _).mono ?_
            rintro r w1 ⟨rfl, rfl⟩
            go_wp2_with fail
            go_ret
            refine ⟨by rw [HS.out]; rfl, ?_⟩
            (try have hB0 := HB.out)
            (repeat' (first | (with_reducible exact Below.refl _ _) | (with_reducible assumption) | (with_reducible refine Below.alloc ?_ ?_ _) | (with_reducible refine Below.drew ?_) | (with_reducible refine below_drewN ?_ _) | (with_reducible refine Below.setCell ?_ ?_ _) | (with_reducible refine below_setRow ?_ ?_ _) | go_size))
          · have HS := hid (show fixB t x y z e a b c d g = false by simp [HC.out, h1, h2, h3])
            have H1 := hid h1
            have H2 := hid h2
            have H3 := hid (Bool.eq_false_iff.2 h3)
            clear h1 h2 h3
            go_wp2_with fail
            refine (nfrom_any _ _ _ _).mono ?_
            rintro r w1 ⟨rfl, rfl⟩
            rw [H1.out]
            go_wp2_with fail
            refine (nfrom_any _ _ _ _).mono ?_
            rintro r w1 ⟨rfl, rfl⟩
            rw [H2.out]
            go_wp2_with fail
            refine (turns_any _ _ _ _ _ (by omega) _).mono ?_
            rintro r w4 ⟨rfl, hb⟩
            have HB := hid ((by refine Below.trans ?_ (hb.mono ?_); (focus ((repeat' (first | (with_reducible exact Below.refl _ _) | (with_reducible assumption) | (with_reducible refine Below.alloc ?_ ?_ _) | (with_reducible refine Below.drew ?_) | (with_reducible refine below_drewN ?_ _) | (with_reducible refine Below.setCell ?_ ?_ _) | (with_reducible refine below_setRow ?_ ?_ _) | go_size)); done)); (focus (first | (simp; done) | (simp; omega)))) : Below w.heap.size w w4)
            have hsw4 := hb.size
            (try simp at hsw4)
            have hzw4 : w.heap.size < w4.heap.size := by omega
            obtain ⟨hcw4, hfw4⟩ := bcell hb
            clear hb
            rw [H3.out]
            go_wp2_with fail
            go_ret
            refine ⟨by rw [HS.out]; rfl, ?_⟩
            (try have hB0 := HB.out)
            (repeat' (first | (with_reducible exact Below.refl _ _) | (with_reducible assumption) | (with_reducible refine Below.alloc ?_ ?_ _) | (with_reducible refine Below.drew ?_) | (with_reducible refine below_drewN ?_ _) | (with_reducible refine Below.setCell ?_ ?_ _) | (with_reducible refine below_setRow ?_ ?_ _) | go_size))
        · have HS := hid (show fixB t x y z e a b c d g = false by simp [HC.out, h1, h2])
          have H1 := hid h1
          have H2 := hid (Bool.eq_false_iff.2 h2)
          clear h1 h2
          go_wp2_with fail
          refine (nfrom_any _ _ _ _).mono ?_
          rintro r w1 ⟨rfl, rfl⟩
          rw [H1.out]
          go_wp2_with fail
          refine (nfrom_any _ _ _ _).mono ?_
          rintro r w1 ⟨rfl, rfl⟩
          rw [H2.out]
          go_wp2_with fail
          go_ret
          refine ⟨by rw [HS.out]; rfl, ?_⟩
          (try have hB0 := HB.out)
          (repeat' (first | (with_reducible exact Below.refl _ _) | (with_reducible assumption) | (with_reducible refine Below.alloc ?_ ?_ _) | (with_reducible refine Below.drew ?_) | (with_reducible refine below_drewN ?_ _) | (with_reducible refine Below.setCell ?_ ?_ _) | (with_reducible refine below_setRow ?_ ?_ _) | go_size))
      · have HS := hid (show fixB t x y z e a b c d g = false by simp [HC.out, h1])
        have H1 := hid (Bool.eq_false_iff.2 h1)
        clear h1
        go_wp2_with fail
        refine (nfrom_any _ _ _ _).mono ?_
        rintro r w1 ⟨rfl, rfl⟩
        rw [H1.out]
        go_wp2_with fail
        go_ret
        refine ⟨by rw [HS.out]; rfl, ?_⟩
        (try have hB0 := HB.out)
        (repeat' (first | (with_reducible exact Below.refl _ _) | (with_reducible assumption) | (with_reducible refine Below.alloc ?_ ?_ _) | (with_reducible refine Below.drew ?_) | (with_reducible refine below_drewN ?_ _) | (with_reducible refine Below.setCell ?_ ?_ _) | (with_reducible refine below_setRow ?_ ?_ _) | go_size))
end Go.Proofs.Ytpablkmdpoombaa

/- Track -/
namespace Go.Proofs.Ytpablkmdpoombaa
open Go.RowKit

theorem size55 : (Try.prog.info? 41).map (·.size) = some 10 := by kernel_rfl
end Go.Proofs.Ytpablkmdpoombaa

/- OpenTrack -/
namespace Go.Proofs.Ytpablkmdpoombaa
open Go.ChangeShapes Go.WideShapes Go.ChangeAt Go.RowKit Go.Deep
section
variable {H : Type} {enc : TypeId × Value → H} {P : Program} {w : World} {base : Nat} {spare : Nat → Bool} {held : Bool}

end

theorem flat55 : flatOf Try.prog 10 41 = some (List.replicate 10 (some .i64)) := by kernel_rfl
section
variable {H : Type} {enc : TypeId × Value → H} {w : World} {base : Nat} {spare : Nat → Bool} {held : Bool}
end
end Go.Proofs.Ytpablkmdpoombaa

/- EncX -/
namespace Go.Proofs.Ytpablkmdpoombaa
open Go.RowKit

def ten (t x y z e a b c d g : Int) : List Int := [t, x, y, z, e, a, b, c, d, g]
theorem eq55 (t x y z e a b c d g t' x' y' z' e' a' b' c' d' g' : Int) (W : World) :
    (Op.equalIn 10000 41 (.agg #[.int .i64 t, .int .i64 x, .int .i64 y, .int .i64 z, .int .i64 e, .int .i64 a, .int .i64 b, .int .i64 c, .int .i64 d, .int .i64 g])
      (.agg #[.int .i64 t', .int .i64 x', .int .i64 y', .int .i64 z', .int .i64 e', .int .i64 a', .int .i64 b', .int .i64 c', .int .i64 d', .int .i64 g'])).run Try.prog W = .ok (ten t x y z e a b c d g == ten t' x' y' z' e' a' b' c' d' g') W := by
  rw [equal_struct Try.underlying41 flat55 [.int .i64 t, .int .i64 x, .int .i64 y, .int .i64 z, .int .i64 e, .int .i64 a, .int .i64 b, .int .i64 c, .int .i64 d, .int .i64 g] [.int .i64 t', .int .i64 x', .int .i64 y', .int .i64 z', .int .i64 e', .int .i64 a', .int .i64 b', .int .i64 c', .int .i64 d', .int .i64 g'] rfl rfl W]
  exact congrArg (fun b => Result.ok b W) (sameL_ints (a := ten t x y z e a b c d g) (b := ten t' x' y' z' e' a' b' c' d' g') rfl)
theorem flat57 : flatOf Try.prog 10 43 = some (List.replicate 3 (some .i64)) := by kernel_rfl
theorem eq57 (t x y t' x' y' : Int) (W : World) :
    (Op.equalIn 10000 43 (.agg #[.int .i64 t, .int .i64 x, .int .i64 y]) (.agg #[.int .i64 t', .int .i64 x', .int .i64 y'])).run Try.prog W = .ok ([t, x, y] == [t', x', y']) W := by
  rw [equal_struct Try.underlying43 flat57 [.int .i64 t, .int .i64 x, .int .i64 y] [.int .i64 t', .int .i64 x', .int .i64 y'] rfl rfl W]
  exact congrArg (fun b => Result.ok b W) (sameL_ints (a := [t, x, y]) (b := [t', x', y']) rfl)

/-- what an encoder returns: an error and no bytes, or the bytes in a row of their own -/
def Enc (er : Int) (bs : List Nat) (e : Ending) (w' : World) : Prop :=
  ∃ v, e = .returned (.tuple #[v, .int .i64 er]) ∧ (er ≠ 0 → v = .slice none 0 0) ∧ (er = 0 → w'.ownsRow 0 5 1 v bs.length (u8s bs))

theorem own_lit {w : World} {g x : Nat} {z : Int} (hz : z = x) (h : w.heap[g]? = some (.cells #[.int .u8 z] 5)) : w.ownsRow 0 5 1 (.slice (some ⟨g, 0, none⟩) 1 1) 1 (u8s [x]) := by
  subst hz
  exact ⟨rfl, Or.inr ⟨g, 1, _, rfl, Nat.zero_le _, h, Nat.le_refl _, by unfold maxLen; omega, rfl, rfl⟩⟩
theorem sync_bd {a b c : Int} (h : syncB a b c = true) : ∀ z ∈ [a, b, c], 0 ≤ z ∧ z ≤ 4611686018427387903 := by
  simp [syncB, inB] at h
  intro z hz
  simp at hz
  rcases hz with rfl | rfl | rfl <;> omega

theorem fix_bd {t x y z e a b c d g : Int} (h : fixB t x y z e a b c d g = true) :
    (∀ v ∈ [t], 0 ≤ v ∧ v ≤ 4611686018427387903) ∧ (∀ v ∈ [x, y, z], -2305843009213693952 ≤ v ∧ v ≤ 2305843009213693951) ∧ (∀ v ∈ [e], 0 ≤ v ∧ v ≤ 4611686018427387903) ∧
    (∀ v ∈ [a, b, c, d], -2305843009213693952 ≤ v ∧ v ≤ 2305843009213693951) ∧ (∀ v ∈ [g], 0 ≤ v ∧ v ≤ 4611686018427387903) := by
  unfold fixB at h
  simp only [Bool.and_eq_true] at h
  obtain ⟨⟨⟨⟨h1, h2⟩, h3⟩, h4⟩, h5⟩ := h
  have hb := turnB_bd h4
  simp [inB] at h1 h2 h3 h5
  refine ⟨?_, ?_, ?_, ?_, ?_⟩
  all_goals
    intro v hv
    simp at hv
  · subst hv; omega
  · rcases hv with rfl | rfl | rfl <;> omega
  · subst hv; omega
  · rcases hv with rfl | rfl | rfl | rfl <;> omega
  · subst hv; omega
def fixBytes (t x y z e a b c d g : Int) : List Nat := ((([0] ++ encs encU [t]) ++ encs encS [x, y, z]) ++ encs encU [e]) ++ encs encS [a, b, c, d] ++ encs encU [g]

theorem encU_le {zs : List Int} (h : ∀ z ∈ zs, 0 ≤ z ∧ z ≤ 4611686018427387903) (hl : zs.length ≤ 10) : (encs encU zs).length ≤ 90 :=
  Nat.le_trans (encs_len (f := encU) (m := 9) zs (fun z hz => nat_len (h z hz))) (by omega)
theorem encS_le {zs : List Int} (h : ∀ z ∈ zs, -2305843009213693952 ≤ z ∧ z ≤ 2305843009213693951) (hl : zs.length ≤ 10) : (encs encS zs).length ≤ 90 :=
  Nat.le_trans (encs_len (f := encS) (m := 9) zs (fun z hz => zig_len (h z hz))) (by omega)
end Go.Proofs.Ytpablkmdpoombaa

