/- Texts of the seat Ytpablkmdpoombaa, turned to this one by wip/port.py: RingM RWithin Order NvA Pul Cfg ValLaw. -/
import Derived.Test.YtpfighhhemnhaaaGreatA
import Derived.Test.YtpfighhhemnhaaaGreatB
import Derived.Test.YtpfighhhemnhaaaGreatC
import Derived.Test.YtpfighhhemnhaaaGreatD
import Derived.Test.YtpfighhhemnhaaaGreatE
import Derived.Test.YtpfighhhemnhaaaGreatF
import Derived.WalkKit
import Derived.ProofKit
import Derived.Handy
import Derived.WalkSpells
import Derived.Deep.QuietTactic
import Derived.BigQuiet
import Derived.BigRegion
import Derived.Laws.CopyOwn
import Derived.Lib.SmallJoins
import Derived.Orders
import Derived.Laws.Bits64b
import Derived.LoopN
import Derived.OpenShut
import Derived.Deep.Slices
import Derived.Lib.QuietBelow
import Derived.BigFrame
import Derived.SizedLaws
/- RingM -/
namespace Go.Proofs.YtpfighhhemnhaaaGreat
open Go.RowKit

structure Xy where
  x : Int
  y : Int
instance : Inhabited Xy := ⟨⟨0, 0⟩⟩
def Xy.row (p : Xy) : List Value := [.int .i64 p.x, .int .i64 p.y]
/-- a slice of places, as it lies in memory -/
def XysV (W : World) (v : Value) (R : List Xy) : Prop := ∃ a cap, v = .slice a R.length cap ∧ (R = [] ∨ ∃ b off, a = some ⟨b, off, none⟩ ∧ b < W.heap.size ∧ RowsAt W b off 2 (R.map Xy.row))
end Go.Proofs.YtpfighhhemnhaaaGreat

/- RWithin -/
namespace Go.Proofs.YtpfighhhemnhaaaGreat
open Go.RowKit

theorem rwithin_any (a b c : Int) (w : World) :
    Calls Tryz.prog 67 #[.int .i64 a, .int .i64 b, .int .i64 c] w fun e w' => e = .returned (.bool (inB b c a)) ∧ w = w' := by
  by_cases h1 : b ≤ a <;> by_cases h2 : a ≤ c
  all_goals
    go_enter Tryz.func67, Tryz.ntmps67
    go_wp2
    go_ret
    simp [inB, *]
end Go.Proofs.YtpfighhhemnhaaaGreat

/- Order -/
namespace Go.Proofs.YtpfighhhemnhaaaGreat
open Go.RowKit

/-- an order, as it lies in memory -/
structure Od where
  lv : Int
  rv : Value
  R : List Xy
  cv : Value
  C : List Int
  ev : Int
def Od.row (o : Od) : List Value := [.int .i64 o.lv, o.rv, o.cv, .int .i64 o.ev]
theorem rfrom_any (a b c : Int) (w : World) :
    Calls Tryz.prog 27 #[.int .i64 a, .int .i64 b, .int .i64 c] w fun e w' => e = .returned (.bool (inB a c b)) ∧ w = w' := by
  by_cases h1 : a ≤ b <;> by_cases h2 : b ≤ c
  all_goals
    go_enter Tryz.func27, Tryz.ntmps27
    go_wp2
    go_ret
    simp [inB, *]
end Go.Proofs.YtpfighhhemnhaaaGreat

/- NvA -/
namespace Go.Proofs.YtpfighhhemnhaaaGreat
open Go.RowKit

/-- the cells of a block that holds integers -/
theorem cells_ints {w : World} {b t : Nat} {fr : Nat × Nat} {C : Array Value} (zs : List Int) (h : w.heap[b]? = some (.cells C t fr))
    (hC : C = (zs.map (Value.int .i64)).toArray) (i : Nat) (hi : i < zs.length) : w.cell? ⟨b, 0 + i, none⟩ = some (.int .i64 (zs.getD i 0)) := by
  subst hC
  simp [World.cell?, h, List.getD_eq_getElem?_getD, List.getElem?_eq_getElem hi]
section
variable {P : Program} {fn : Func} {p u v : Tmp} {ty : TypeId} {tmps : Array Value} {w : World} {g : Nat} {t : TypeId} {cs : Array Value} {fr : Nat × Nat} {d : TypeDesc} {n : Nat}
end
end Go.Proofs.YtpfighhhemnhaaaGreat

namespace Go.Proofs.YtpfighhhemnhaaaGreat
open Go.RowKit

section
variable {P : Program} {Q : Exit → Act → World → Prop}
/-- the same, one predicate for each operation's value -/
theorem wp_region_pt {id : Nat} {l : List Oper} {A0 : Act} {w : World} (hm : P.follows .mixedOrders = true) (hb : backB 0 l = true) (ds : List (Option Nat)) (hl : l.length = ds.length) (hds : (ds.filterMap _root_.id).Nodup)
    (Pr : Nat → World → Value → Prop) (hPr : ∀ j W W' v, Below W.heap.size W W' → Pr j W v → Pr j W' v) (us0 : Nat → Value) (hus : putF A0 ds us0 = A0)
    (hs : PtSteps P l.toArray Q A0 ds w Pr 0 l) (hend : ∀ us W, Below w.heap.size w W → (∀ j, j < ds.length → Pr j W (us j)) → Q .normal (putF A0 ds us) W) : (Code.region id l.toArray true).wp P Q A0 w :=
  wp_region_by hm hb ds hl hds (fun L us W => Below w.heap.size w W ∧ ∀ j, L j = true → Pr j W (us j)) us0 hus ⟨(Below.refl _ _).drew, by simp⟩ (hs.by hPr)
    (fun L us W hL hR => hend us W hR.1 (fun j hj => hR.2 j (hL j hj)))
/-- the value is this one -/
def IsV (x : Value) (_ : World) (v : Value) : Prop := v = x
theorem IsV.stb (x : Value) : Stb (IsV x) := fun _ _ _ _ h => h
/-- the same by a list of predicates, one for each operation -/
theorem wp_region_pl {id : Nat} {l : List Oper} {A0 : Act} {w : World} (hm : P.follows .mixedOrders = true) (hb : backB 0 l = true) (ds : List (Option Nat)) (hl : l.length = ds.length) (hds : (ds.filterMap _root_.id).Nodup)
    (ps : List (World → Value → Prop)) (hps : StbL ps)
    (hs : PtSteps P l.toArray Q A0 ds w (fun j => ps.getD j (fun _ _ => True)) 0 l) (hend : ∀ us W, Below w.heap.size w W → (∀ j, j < ds.length → ps.getD j (fun _ _ => True) W (us j)) → Q .normal (putF A0 ds us) W) : (Code.region id l.toArray true).wp P Q A0 w :=
  wp_region_pt hm hb ds hl hds _ hps.at (selfF A0 ds) (putF_self A0 ds) hs hend
end
end Go.Proofs.YtpfighhhemnhaaaGreat
namespace Go.Proofs.YtpfighhhemnhaaaGreat
open Go.RowKit

section
variable {P : Program} {Q : Exit → Act → World → Prop}
end
end Go.Proofs.YtpfighhhemnhaaaGreat
namespace Go.Proofs.YtpfighhhemnhaaaGreat
open Go.RowKit

section
variable {P : Program} {Q : Exit → Act → World → Prop}
end
end Go.Proofs.YtpfighhhemnhaaaGreat
namespace Go.Proofs.YtpfighhhemnhaaaGreat
open Go.RowKit
section
variable {P : Program} {Q : Exit → Act → World → Prop}
end
end Go.Proofs.YtpfighhhemnhaaaGreat
namespace Go.Proofs.YtpfighhhemnhaaaGreat
open Go.RowKit

section
variable {P : Program} {Q : Exit → Act → World → Prop}
end
end Go.Proofs.YtpfighhhemnhaaaGreat

namespace Go.Proofs.YtpfighhhemnhaaaGreat
open Go.RowKit

theorem inB_step {zs : List Int} {p : Int → Bool} {k : Nat} (hk : k < zs.length) (h : (zs.take k).all p = true) : (zs.take (k + 1)).all p = p (zs.getD k 0) := by
  rw [List.take_succ_eq_append_getElem hk, List.all_append, h]
  simp [List.getD_eq_getElem?_getD, List.getElem?_eq_getElem hk]
theorem inB_stop {zs : List Int} {p : Int → Bool} {k : Nat} (hk : k < zs.length) (h : p (zs.getD k 0) = false) : zs.all p = false := by
  rw [List.all_eq_false]
  refine ⟨zs[k], List.getElem_mem hk, ?_⟩
  rw [List.getD_eq_getElem?_getD, List.getElem?_eq_getElem hk] at h
  simpa using h
theorem nfrom_any (a b c : Int) (w : World) :
    Calls Tryz.prog 66 #[.int .i64 a, .int .i64 b, .int .i64 c] w fun e w' => e = .returned (.bool (inB a c b)) ∧ w = w' := by
  by_cases h1 : a ≤ b <;> by_cases h2 : b ≤ c
  all_goals
    go_enter Tryz.func66, Tryz.ntmps66
    go_wp2
    go_ret
    simp [inB, *]

set_option maxHeartbeats 400000 in
theorem nwithin_any (lo hi : Int) (b off n c : Nat) (zs : List Int) (w : World) (hn : n = zs.length) (hm : n ≤ 4611686018427387904)
    (hc : ∀ i, i < n → w.cell? ⟨b, off + i, none⟩ = some (.int .i64 (zs.getD i 0))) :
    Calls Tryz.prog 131 #[.int .i64 lo, .int .i64 hi, .slice (some ⟨b, off, none⟩) n c] w fun e w' => e = .returned (.bool (zs.all (inB lo hi))) ∧ w = w' := by
  have HN := hid hn; clear hn
  go_enter Tryz.func131, Tryz.ntmps131
  go_wp2
  go_loop [11] (fun i => ∃ k : Nat, k ≤ n ∧ i = .int .i64 k ∧ (zs.take k).all (inB lo hi) = true) (fun i => n - (intOf i).toNat)
  case atStart => exact ⟨0, Nat.zero_le _, rfl, rfl⟩
  case round =>
    obtain ⟨k, hk, rfl, hall⟩ := hrel
    have HA := hid hall; clear hall
    by_cases hlt : k < n
    · have hcell := hc k hlt
      have hlt2 : k < zs.length := by rw [← HN.out]; exact hlt
      have hsn := hid (inB_step hlt2 HA.out)
      have hst := @inB_stop zs (inB lo hi) k hlt2
      have HST := hid hst
      clear hc hst hlt2
      generalize zs.getD k 0 = z at *
      by_cases h1 : z < lo
      · go_wp2
        go_ret
        refine ⟨?_, rfl⟩
        rw [HST.out (by simp [inB]; omega)]; rfl
      · by_cases h2 : hi < z
        · go_wp2
          go_ret
          refine ⟨?_, rfl⟩
          rw [HST.out (by simp [inB]; omega)]; rfl
        · go_wp2
          go_round
          case rel => exact ⟨k + 1, by omega, by go_num, by rw [hsn.out]; simp [inB]; omega⟩
          case measure => simp [intOf]; omega
    · clear hc
      go_wp2
      go_ret
      refine ⟨?_, rfl⟩
      have h1 := HN.out
      have h2 := HA.out
      rw [List.take_of_length_le (by omega)] at h2
      rw [h2]; rfl

end Go.Proofs.YtpfighhhemnhaaaGreat

namespace Go.Proofs.YtpfighhhemnhaaaGreat
open Go.RowKit
end Go.Proofs.YtpfighhhemnhaaaGreat

namespace Go.Proofs.YtpfighhhemnhaaaGreat
open Go.RowKit

section
variable {P : Program}

end
end Go.Proofs.YtpfighhhemnhaaaGreat

namespace Go.Proofs.YtpfighhhemnhaaaGreat
open Go.RowKit
end Go.Proofs.YtpfighhhemnhaaaGreat

namespace Go.Proofs.YtpfighhhemnhaaaGreat
open Go.RowKit

end Go.Proofs.YtpfighhhemnhaaaGreat

namespace Go.Proofs.YtpfighhhemnhaaaGreat
open Go.RowKit

theorem within1 (lo hi x : Int) (b c : Nat) (w : World) (hc : w.cell? ⟨b, 0, none⟩ = some (.int .i64 x)) :
    Calls Tryz.prog 131 #[.int .i64 lo, .int .i64 hi, .slice (some ⟨b, 0, none⟩) 1 c] w fun e w' => e = .returned (.bool (inB lo hi x)) ∧ w = w' := by
  refine (nwithin_any lo hi b 0 1 c [x] w rfl (by omega) ?_).mono ?_
  · intro i hi
    obtain rfl : i = 0 := by omega
    exact hc
  · rintro e w' ⟨rfl, rfl⟩
    simp
end Go.Proofs.YtpfighhhemnhaaaGreat

namespace Go.Proofs.YtpfighhhemnhaaaGreat
open Go.RowKit


def rulesB (a b c d : Int) : Bool := inB 1 10000000 a && inB 0 1000000 b && inB 0 100000 c && inB 0 10000000 d
set_option maxRecDepth 100000 in
theorem xRules_any (a b c d : Int) (w : World) :
    Calls Tryz.prog 60 #[.agg #[.int .i64 a, .int .i64 b, .int .i64 c, .int .i64 d]] w fun e w' => e = .returned (.bool (rulesB a b c d)) ∧ Below w.heap.size w w' := by
  by_cases h1 : inB 1 10000000 a = true
  · by_cases h2 : inB 0 1000000 b = true
    · by_cases h3 : inB 0 100000 c = true
      · have HS := hid (show rulesB a b c d = inB 0 10000000 d by simp [rulesB, h1, h2, h3])
        have H1 := hid h1
        have H2 := hid h2
        have H3 := hid h3
        clear h1 h2 h3
        go_enter Tryz.func60, Tryz.ntmps60
        go_wp2_with fail
        refine (within1 _ _ (a) _ _ _ ?_).mono ?_
        focus first | (simp; done) | (simp [go_sem]; done)
        rintro r w1 ⟨rfl, rfl⟩
        rw [H1.out]
        go_wp2_with fail
        refine (within1 _ _ (b) _ _ _ ?_).mono ?_
        focus first | (simp; done) | (simp [go_sem]; done)
        rintro r w1 ⟨rfl, rfl⟩
        rw [H2.out]
        go_wp2_with fail
        refine (within1 _ _ (c) _ _ _ ?_).mono ?_
        focus first | (simp; done) | (simp [go_sem]; done)
        rintro r w1 ⟨rfl, rfl⟩
        rw [H3.out]
        go_wp2_with fail
        refine (within1 _ _ (d) _ _ _ ?_).mono ?_
        focus first | (simp; done) | (simp [go_sem]; done)
        rintro r w1 ⟨rfl, rfl⟩
        go_wp2_with fail
        go_ret
        refine ⟨by rw [HS.out]; rfl, ?_⟩
        (try have hB0 := HB.out)
        (repeat' (first | (with_reducible exact Below.refl _ _) | (with_reducible assumption) | (with_reducible refine Below.alloc ?_ ?_ _) | (with_reducible refine Below.drew ?_) | (with_reducible refine below_drewN ?_ _) | (with_reducible refine Below.setCell ?_ ?_ _) | (with_reducible refine below_setRow ?_ ?_ _) | go_size))
      · have HS := hid (show rulesB a b c d = false by simp [rulesB, h1, h2, h3])
        have H1 := hid h1
        have H2 := hid h2
        have H3 := hid (Bool.eq_false_iff.2 h3)
        clear h1 h2 h3
        go_enter Tryz.func60, Tryz.ntmps60
        go_wp2_with fail
        refine (within1 _ _ (a) _ _ _ ?_).mono ?_
        focus first | (simp; done) | (simp [go_sem]; done)
        rintro r w1 ⟨rfl, rfl⟩
        rw [H1.out]
        go_wp2_with fail
        refine (within1 _ _ (b) _ _ _ ?_).mono ?_
        focus first | (simp; done) | (simp [go_sem]; done)
        rintro r w1 ⟨rfl, rfl⟩
        rw [H2.out]
        go_wp2_with fail
        refine (within1 _ _ (c) _ _ _ ?_).mono ?_
        focus first | (simp; done) | (simp [go_sem]; done)
        rintro r w1 ⟨rfl, rfl⟩
        rw [H3.out]
        go_wp2_with fail
        go_ret
        refine ⟨by rw [HS.out]; rfl, ?_⟩
        (try have hB0 := HB.out)
        (repeat' (first | (with_reducible exact Below.refl _ _) | (with_reducible assumption) | (with_reducible refine Below.alloc ?_ ?_ _) | (with_reducible refine Below.drew ?_) | (with_reducible refine below_drewN ?_ _) | (with_reducible refine Below.setCell ?_ ?_ _) | (with_reducible refine below_setRow ?_ ?_ _) | go_size))
    · have HS := hid (show rulesB a b c d = false by simp [rulesB, h1, h2])
      have H1 := hid h1
      have H2 := hid (Bool.eq_false_iff.2 h2)
      clear h1 h2
      go_enter Tryz.func60, Tryz.ntmps60
      go_wp2_with fail
      refine (within1 _ _ (a) _ _ _ ?_).mono ?_
      focus first | (simp; done) | (simp [go_sem]; done)
      rintro r w1 ⟨rfl, rfl⟩
      rw [H1.out]
      go_wp2_with fail
      refine (within1 _ _ (b) _ _ _ ?_).mono ?_
      focus first | (simp; done) | (simp [go_sem]; done)
      rintro r w1 ⟨rfl, rfl⟩
      rw [H2.out]
      go_wp2_with fail
      go_ret
      refine ⟨by rw [HS.out]; rfl, ?_⟩
      (try have hB0 := HB.out)
      (repeat' (first | (with_reducible exact Below.refl _ _) | (with_reducible assumption) | (with_reducible refine Below.alloc ?_ ?_ _) | (with_reducible refine Below.drew ?_) | (with_reducible refine below_drewN ?_ _) | (with_reducible refine Below.setCell ?_ ?_ _) | (with_reducible refine below_setRow ?_ ?_ _) | go_size))
  · have HS := hid (show rulesB a b c d = false by simp [rulesB, h1])
    have H1 := hid (Bool.eq_false_iff.2 h1)
    clear h1
    go_enter Tryz.func60, Tryz.ntmps60
    go_wp2_with fail
    refine (within1 _ _ (a) _ _ _ ?_).mono ?_
    focus first | (simp; done) | (simp [go_sem]; done)
    rintro r w1 ⟨rfl, rfl⟩
    rw [H1.out]
    go_wp2_with fail
    go_ret
    refine ⟨by rw [HS.out]; rfl, ?_⟩
    (try have hB0 := HB.out)
    (repeat' (first | (with_reducible exact Below.refl _ _) | (with_reducible assumption) | (with_reducible refine Below.alloc ?_ ?_ _) | (with_reducible refine Below.drew ?_) | (with_reducible refine below_drewN ?_ _) | (with_reducible refine Below.setCell ?_ ?_ _) | (with_reducible refine below_setRow ?_ ?_ _) | go_size))
set_option maxRecDepth 100000 in
theorem rRules_any (a b c d : Int) (w : World) :
    Calls Tryz.prog 29 #[.agg #[.int .i64 a, .int .i64 b, .int .i64 c, .int .i64 d]] w fun e w' => e = .returned (.bool (rulesB a b c d)) ∧ Below w.heap.size w w' := by
  by_cases h1 : inB 1 10000000 a = true
  · by_cases h2 : inB 0 1000000 b = true
    · by_cases h3 : inB 0 100000 c = true
      · have HS := hid (show rulesB a b c d = inB 0 10000000 d by simp [rulesB, h1, h2, h3])
        have H1 := hid h1
        have H2 := hid h2
        have H3 := hid h3
        clear h1 h2 h3
        go_enter Tryz.func29, Tryz.ntmps29
        go_wp2_with fail
        refine (nfrom_any _ _ _ _).mono ?_
        rintro r w1 ⟨rfl, rfl⟩
        rw [H1.out]
        go_wp2_with fail
        refine (nfrom_any _ _ _ _).mono ?_
        rintro r w1 ⟨rfl, rfl⟩
        rw [H2.out]
        go_wp2_with fail
        refine (nfrom_any _ _ _ _).mono ?_
        rintro r w1 ⟨rfl, rfl⟩
        rw [H3.out]
        go_wp2_with fail
        refine (nfrom_any _ _ _ _).mono ?_
        rintro r w1 ⟨rfl, rfl⟩
        go_wp2_with fail
        go_ret
        refine ⟨by rw [HS.out]; rfl, ?_⟩
        (try have hB0 := HB.out)
        (repeat' (first | (with_reducible exact Below.refl _ _) | (with_reducible assumption) | (with_reducible refine Below.alloc ?_ ?_ _) | (with_reducible refine Below.drew ?_) | (with_reducible refine below_drewN ?_ _) | (with_reducible refine Below.setCell ?_ ?_ _) | (with_reducible refine below_setRow ?_ ?_ _) | go_size))
      · have HS := hid (show rulesB a b c d = false by simp [rulesB, h1, h2, h3])
        have H1 := hid h1
        have H2 := hid h2
        have H3 := hid (Bool.eq_false_iff.2 h3)
        clear h1 h2 h3
        go_enter Tryz.func29, Tryz.ntmps29
        go_wp2_with fail
        refine (nfrom_any _ _ _ _).mono ?_
        rintro r w1 ⟨rfl, rfl⟩
        rw [H1.out]
        go_wp2_with fail
        refine (nfrom_any _ _ _ _).mono ?_
        rintro r w1 ⟨rfl, rfl⟩
        rw [H2.out]
        go_wp2_with fail
        refine (nfrom_any _ _ _ _).mono ?_
        rintro r w1 ⟨rfl, rfl⟩
        rw [H3.out]
        go_wp2_with fail
        go_ret
        refine ⟨by rw [HS.out]; rfl, ?_⟩
        (try have hB0 := HB.out)
        (repeat' (first | (with_reducible exact Below.refl _ _) | (with_reducible assumption) | (with_reducible refine Below.alloc ?_ ?_ _) | (with_reducible refine Below.drew ?_) | (with_reducible refine below_drewN ?_ _) | (with_reducible refine Below.setCell ?_ ?_ _) | (with_reducible refine below_setRow ?_ ?_ _) | go_size))
    · have HS := hid (show rulesB a b c d = false by simp [rulesB, h1, h2])
      have H1 := hid h1
      have H2 := hid (Bool.eq_false_iff.2 h2)
      clear h1 h2
      go_enter Tryz.func29, Tryz.ntmps29
      go_wp2_with fail
      refine (nfrom_any _ _ _ _).mono ?_
      rintro r w1 ⟨rfl, rfl⟩
      rw [H1.out]
      go_wp2_with fail
      refine (nfrom_any _ _ _ _).mono ?_
      rintro r w1 ⟨rfl, rfl⟩
      rw [H2.out]
      go_wp2_with fail
      go_ret
      refine ⟨by rw [HS.out]; rfl, ?_⟩
      (try have hB0 := HB.out)
      (repeat' (first | (with_reducible exact Below.refl _ _) | (with_reducible assumption) | (with_reducible refine Below.alloc ?_ ?_ _) | (with_reducible refine Below.drew ?_) | (with_reducible refine below_drewN ?_ _) | (with_reducible refine Below.setCell ?_ ?_ _) | (with_reducible refine below_setRow ?_ ?_ _) | go_size))
  · have HS := hid (show rulesB a b c d = false by simp [rulesB, h1])
    have H1 := hid (Bool.eq_false_iff.2 h1)
    clear h1
    go_enter Tryz.func29, Tryz.ntmps29
    go_wp2_with fail
    refine (nfrom_any _ _ _ _).mono ?_
    rintro r w1 ⟨rfl, rfl⟩
    rw [H1.out]
    go_wp2_with fail
    go_ret
    refine ⟨by rw [HS.out]; rfl, ?_⟩
    (try have hB0 := HB.out)
    (repeat' (first | (with_reducible exact Below.refl _ _) | (with_reducible assumption) | (with_reducible refine Below.alloc ?_ ?_ _) | (with_reducible refine Below.drew ?_) | (with_reducible refine below_drewN ?_ _) | (with_reducible refine Below.setCell ?_ ?_ _) | (with_reducible refine below_setRow ?_ ?_ _) | go_size))
end Go.Proofs.YtpfighhhemnhaaaGreat

namespace Go.Proofs.YtpfighhhemnhaaaGreat
open Go.RowKit

end Go.Proofs.YtpfighhhemnhaaaGreat

namespace Go.Proofs.YtpfighhhemnhaaaGreat
open Go.ChangeShapes Go.WideShapes Go.ChangeAt Go.RowKit Go.Deep
section
variable {H : Type} {enc : TypeId × Value → H} {P : Program} {w : World} {base : Nat} {spare : Nat → Bool} {held : Bool}

end

section
variable {H : Type} {enc : TypeId × Value → H} {w : World} {base : Nat} {spare : Nat → Bool} {held : Bool}
end
end Go.Proofs.YtpfighhhemnhaaaGreat

namespace Go.Proofs.YtpfighhhemnhaaaGreat
open Go.RowKit

end Go.Proofs.YtpfighhhemnhaaaGreat


/- Cfg -/
namespace Go.Proofs.YtpfighhhemnhaaaGreat
open Go.RowKit

def detB (a b c d : Int) : Bool := decide (1 ≤ a) && decide (a ≤ 1023) && decide (1 ≤ b) && decide (b ≤ 1023) && decide (1 ≤ c) && decide (c ≤ 10000) && decide (-1048576 ≤ d) && decide (d ≤ 1048576)
set_option maxRecDepth 100000 in
theorem xDet_any (a b c d : Int) (w : World) :
    Calls Tryz.prog 59 #[.agg #[.int .i64 a, .int .i64 b, .int .i64 c, .int .i64 d]] w fun e w' => e = .returned (.bool (detB a b c d)) ∧ Below w.heap.size w w' := by
  by_cases h1 : decide (1 ≤ a) = true
  · by_cases h2 : decide (a ≤ 1023) = true
    · by_cases h3 : decide (1 ≤ b) = true
      · by_cases h4 : decide (b ≤ 1023) = true
        · by_cases h5 : decide (1 ≤ c) = true
          · by_cases h6 : decide (c ≤ 10000) = true
            · by_cases h7 : decide (-1048576 ≤ d) = true
              · have HS := hid (show detB a b c d = decide (d ≤ 1048576) by simp [detB, h1, h2, h3, h4, h5, h6, h7])
                have H1 := hid h1
                have H2 := hid h2
                have H3 := hid h3
                have H4 := hid h4
                have H5 := hid h5
                have H6 := hid h6
                have H7 := hid h7
                clear h1 h2 h3 h4 h5 h6 h7
                have D1 := H1.out
                have D2 := H2.out
                have D3 := H3.out
                have D4 := H4.out
                have D5 := H5.out
                have D6 := H6.out
                have D7 := H7.out
                go_enter Tryz.func59, Tryz.ntmps59
                go_wp2_with fail
                go_ret
                refine ⟨by rw [HS.out]; rfl, ?_⟩
                (try have hB0 := HB.out)
                (repeat' (first | (with_reducible exact Below.refl _ _) | (with_reducible assumption) | (with_reducible refine Below.alloc ?_ ?_ _) | (with_reducible refine Below.drew ?_) | (with_reducible refine below_drewN ?_ _) | (with_reducible refine Below.setCell ?_ ?_ _) | (with_reducible refine below_setRow ?_ ?_ _) | go_size))
              · have HS := hid (show detB a b c d = false by simp [detB, h1, h2, h3, h4, h5, h6, h7])
                have H1 := hid h1
                have H2 := hid h2
                have H3 := hid h3
                have H4 := hid h4
                have H5 := hid h5
                have H6 := hid h6
                have H7 := hid (Bool.eq_false_iff.2 h7)
                clear h1 h2 h3 h4 h5 h6 h7
                have D1 := H1.out
                have D2 := H2.out
                have D3 := H3.out
                have D4 := H4.out
                have D5 := H5.out
                have D6 := H6.out
                have D7 := H7.out
                go_enter Tryz.func59, Tryz.ntmps59
                go_wp2_with fail
                go_ret
                refine ⟨by rw [HS.out]; rfl, ?_⟩
                (try have hB0 := HB.out)
                (repeat' (first | (with_reducible exact Below.refl _ _) | (with_reducible assumption) | (with_reducible refine Below.alloc ?_ ?_ _) | (with_reducible refine Below.drew ?_) | (with_reducible refine below_drewN ?_ _) | (with_reducible refine Below.setCell ?_ ?_ _) | (with_reducible refine below_setRow ?_ ?_ _) | go_size))
            · have HS := hid (show detB a b c d = false by simp [detB, h1, h2, h3, h4, h5, h6])
              have H1 := hid h1
              have H2 := hid h2
              have H3 := hid h3
              have H4 := hid h4
              have H5 := hid h5
              have H6 := hid (Bool.eq_false_iff.2 h6)
              clear h1 h2 h3 h4 h5 h6
              have D1 := H1.out
              have D2 := H2.out
              have D3 := H3.out
              have D4 := H4.out
              have D5 := H5.out
              have D6 := H6.out
              go_enter Tryz.func59, Tryz.ntmps59
              go_wp2_with fail
              go_ret
              refine ⟨by rw [HS.out]; rfl, ?_⟩
              (try have hB0 := HB.out)
              (repeat' (first | (with_reducible exact Below.refl _ _) | (with_reducible assumption) | (with_reducible refine Below.alloc ?_ ?_ _) | (with_reducible refine Below.drew ?_) | (with_reducible refine below_drewN ?_ _) | (with_reducible refine Below.setCell ?_ ?_ _) | (with_reducible refine below_setRow ?_ ?_ _) | go_size))
          · have HS := hid (show detB a b c d = false by simp [detB, h1, h2, h3, h4, h5])
            have H1 := hid h1
            have H2 := hid h2
            have H3 := hid h3
            have H4 := hid h4
            have H5 := hid (Bool.eq_false_iff.2 h5)
            clear h1 h2 h3 h4 h5
            have D1 := H1.out
            have D2 := H2.out
            have D3 := H3.out
            have D4 := H4.out
            have D5 := H5.out
            go_enter Tryz.func59, Tryz.ntmps59
            go_wp2_with fail
            go_ret
            refine ⟨by rw [HS.out]; rfl, ?_⟩
            (try have hB0 := HB.out)
            (repeat' (first | (with_reducible exact Below.refl _ _) | (with_reducible assumption) | (with_reducible refine Below.alloc ?_ ?_ _) | (with_reducible refine Below.drew ?_) | (with_reducible refine below_drewN ?_ _) | (with_reducible refine Below.setCell ?_ ?_ _) | (with_reducible refine below_setRow ?_ ?_ _) | go_size))
        · have HS := hid (show detB a b c d = false by simp [detB, h1, h2, h3, h4])
          have H1 := hid h1
          have H2 := hid h2
          have H3 := hid h3
          have H4 := hid (Bool.eq_false_iff.2 h4)
          clear h1 h2 h3 h4
          have D1 := H1.out
          have D2 := H2.out
          have D3 := H3.out
          have D4 := H4.out
          go_enter Tryz.func59, Tryz.ntmps59
          go_wp2_with fail
          go_ret
          refine ⟨by rw [HS.out]; rfl, ?_⟩
          (try have hB0 := HB.out)
          (repeat' (first | (with_reducible exact Below.refl _ _) | (with_reducible assumption) | (with_reducible refine Below.alloc ?_ ?_ _) | (with_reducible refine Below.drew ?_) | (with_reducible refine below_drewN ?_ _) | (with_reducible refine Below.setCell ?_ ?_ _) | (with_reducible refine below_setRow ?_ ?_ _) | go_size))
      · have HS := hid (show detB a b c d = false by simp [detB, h1, h2, h3])
        have H1 := hid h1
        have H2 := hid h2
        have H3 := hid (Bool.eq_false_iff.2 h3)
        clear h1 h2 h3
        have D1 := H1.out
        have D2 := H2.out
        have D3 := H3.out
        go_enter Tryz.func59, Tryz.ntmps59
        go_wp2_with fail
        go_ret
        refine ⟨by rw [HS.out]; rfl, ?_⟩
        (try have hB0 := HB.out)
        (repeat' (first | (with_reducible exact Below.refl _ _) | (with_reducible assumption) | (with_reducible refine Below.alloc ?_ ?_ _) | (with_reducible refine Below.drew ?_) | (with_reducible refine below_drewN ?_ _) | (with_reducible refine Below.setCell ?_ ?_ _) | (with_reducible refine below_setRow ?_ ?_ _) | go_size))
    · have HS := hid (show detB a b c d = false by simp [detB, h1, h2])
      have H1 := hid h1
      have H2 := hid (Bool.eq_false_iff.2 h2)
      clear h1 h2
      have D1 := H1.out
      have D2 := H2.out
      go_enter Tryz.func59, Tryz.ntmps59
      go_wp2_with fail
      go_ret
      refine ⟨by rw [HS.out]; rfl, ?_⟩
      (try have hB0 := HB.out)
      (repeat' (first | (with_reducible exact Below.refl _ _) | (with_reducible assumption) | (with_reducible refine Below.alloc ?_ ?_ _) | (with_reducible refine Below.drew ?_) | (with_reducible refine below_drewN ?_ _) | (with_reducible refine Below.setCell ?_ ?_ _) | (with_reducible refine below_setRow ?_ ?_ _) | go_size))
  · have HS := hid (show detB a b c d = false by simp [detB, h1])
    have H1 := hid (Bool.eq_false_iff.2 h1)
    clear h1
    have D1 := H1.out
    go_enter Tryz.func59, Tryz.ntmps59
    go_wp2_with fail
    go_ret
    refine ⟨by rw [HS.out]; rfl, ?_⟩
    (try have hB0 := HB.out)
    (repeat' (first | (with_reducible exact Below.refl _ _) | (with_reducible assumption) | (with_reducible refine Below.alloc ?_ ?_ _) | (with_reducible refine Below.drew ?_) | (with_reducible refine below_drewN ?_ _) | (with_reducible refine Below.setCell ?_ ?_ _) | (with_reducible refine below_setRow ?_ ?_ _) | go_size))
set_option maxRecDepth 100000 in
theorem rDet_any (a b c d : Int) (w : World) :
    Calls Tryz.prog 28 #[.agg #[.int .i64 a, .int .i64 b, .int .i64 c, .int .i64 d]] w fun e w' => e = .returned (.bool (detB a b c d)) ∧ Below w.heap.size w w' := by
  by_cases h1 : decide (1 ≤ a) = true
  · by_cases h2 : decide (a ≤ 1023) = true
    · by_cases h3 : decide (1 ≤ b) = true
      · by_cases h4 : decide (b ≤ 1023) = true
        · by_cases h5 : decide (1 ≤ c) = true
          · by_cases h6 : decide (c ≤ 10000) = true
            · by_cases h7 : decide (-1048576 ≤ d) = true
              · have HS := hid (show detB a b c d = decide (d ≤ 1048576) by simp [detB, h1, h2, h3, h4, h5, h6, h7])
                have H1 := hid h1
                have H2 := hid h2
                have H3 := hid h3
                have H4 := hid h4
                have H5 := hid h5
                have H6 := hid h6
                have H7 := hid h7
                clear h1 h2 h3 h4 h5 h6 h7
                have D1 := H1.out
                have D2 := H2.out
                have D3 := H3.out
                have D4 := H4.out
                have D5 := H5.out
                have D6 := H6.out
                have D7 := H7.out
                go_enter Tryz.func28, Tryz.ntmps28
                go_wp2_with fail
                go_ret
                refine ⟨by rw [HS.out]; rfl, ?_⟩
                (try have hB0 := HB.out)
                (repeat' (first | (with_reducible exact Below.refl _ _) | (with_reducible assumption) | (with_reducible refine Below.alloc ?_ ?_ _) | (with_reducible refine Below.drew ?_) | (with_reducible refine below_drewN ?_ _) | (with_reducible refine Below.setCell ?_ ?_ _) | (with_reducible refine below_setRow ?_ ?_ _) | go_size))
              · have HS := hid (show detB a b c d = false by simp [detB, h1, h2, h3, h4, h5, h6, h7])
                have H1 := hid h1
                have H2 := hid h2
                have H3 := hid h3
                have H4 := hid h4
                have H5 := hid h5
                have H6 := hid h6
                have H7 := hid (Bool.eq_false_iff.2 h7)
                clear h1 h2 h3 h4 h5 h6 h7
                have D1 := H1.out
                have D2 := H2.out
                have D3 := H3.out
                have D4 := H4.out
                have D5 := H5.out
                have D6 := H6.out
                have D7 := H7.out
                go_enter Tryz.func28, Tryz.ntmps28
                go_wp2_with fail
                go_ret
                refine ⟨by rw [HS.out]; rfl, ?_⟩
                (try have hB0 := HB.out)
                (repeat' (first | (with_reducible exact Below.refl _ _) | (with_reducible assumption) | (with_reducible refine Below.alloc ?_ ?_ _) | (with_reducible refine Below.drew ?_) | (with_reducible refine below_drewN ?_ _) | (with_reducible refine Below.setCell ?_ ?_ _) | (with_reducible refine below_setRow ?_ ?_ _) | go_size))
            · have HS := hid (show detB a b c d = false by simp [detB, h1, h2, h3, h4, h5, h6])
              have H1 := hid h1
              have H2 := hid h2
              have H3 := hid h3
              have H4 := hid h4
              have H5 := hid h5
              have H6 := hid (Bool.eq_false_iff.2 h6)
              clear h1 h2 h3 h4 h5 h6
              have D1 := H1.out
              have D2 := H2.out
              have D3 := H3.out
              have D4 := H4.out
              have D5 := H5.out
              have D6 := H6.out
              go_enter Tryz.func28, Tryz.ntmps28
              go_wp2_with fail
              go_ret
              refine ⟨by rw [HS.out]; rfl, ?_⟩
              (try have hB0 := HB.out)
              (repeat' (first | (with_reducible exact Below.refl _ _) | (with_reducible assumption) | (with_reducible refine Below.alloc ?_ ?_ _) | (with_reducible refine Below.drew ?_) | (with_reducible refine below_drewN ?_ _) | (with_reducible refine Below.setCell ?_ ?_ _) | (with_reducible refine below_setRow ?_ ?_ _) | go_size))
          · have HS := hid (show detB a b c d = false by simp [detB, h1, h2, h3, h4, h5])
            have H1 := hid h1
            have H2 := hid h2
            have H3 := hid h3
            have H4 := hid h4
            have H5 := hid (Bool.eq_false_iff.2 h5)
            clear h1 h2 h3 h4 h5
            have D1 := H1.out
            have D2 := H2.out
            have D3 := H3.out
            have D4 := H4.out
            have D5 := H5.out
            go_enter Tryz.func28, Tryz.ntmps28
            go_wp2_with fail
            go_ret
            refine ⟨by rw [HS.out]; rfl, ?_⟩
            (try have hB0 := HB.out)
            (repeat' (first | (with_reducible exact Below.refl _ _) | (with_reducible assumption) | (with_reducible refine Below.alloc ?_ ?_ _) | (with_reducible refine Below.drew ?_) | (with_reducible refine below_drewN ?_ _) | (with_reducible refine Below.setCell ?_ ?_ _) | (with_reducible refine below_setRow ?_ ?_ _) | go_size))
        · have HS := hid (show detB a b c d = false by simp [detB, h1, h2, h3, h4])
          have H1 := hid h1
          have H2 := hid h2
          have H3 := hid h3
          have H4 := hid (Bool.eq_false_iff.2 h4)
          clear h1 h2 h3 h4
          have D1 := H1.out
          have D2 := H2.out
          have D3 := H3.out
          have D4 := H4.out
          go_enter Tryz.func28, Tryz.ntmps28
          go_wp2_with fail
          go_ret
          refine ⟨by rw [HS.out]; rfl, ?_⟩
          (try have hB0 := HB.out)
          (repeat' (first | (with_reducible exact Below.refl _ _) | (with_reducible assumption) | (with_reducible refine Below.alloc ?_ ?_ _) | (with_reducible refine Below.drew ?_) | (with_reducible refine below_drewN ?_ _) | (with_reducible refine Below.setCell ?_ ?_ _) | (with_reducible refine below_setRow ?_ ?_ _) | go_size))
      · have HS := hid (show detB a b c d = false by simp [detB, h1, h2, h3])
        have H1 := hid h1
        have H2 := hid h2
        have H3 := hid (Bool.eq_false_iff.2 h3)
        clear h1 h2 h3
        have D1 := H1.out
        have D2 := H2.out
        have D3 := H3.out
        go_enter Tryz.func28, Tryz.ntmps28
        go_wp2_with fail
        go_ret
        refine ⟨by rw [HS.out]; rfl, ?_⟩
        (try have hB0 := HB.out)
        (repeat' (first | (with_reducible exact Below.refl _ _) | (with_reducible assumption) | (with_reducible refine Below.alloc ?_ ?_ _) | (with_reducible refine Below.drew ?_) | (with_reducible refine below_drewN ?_ _) | (with_reducible refine Below.setCell ?_ ?_ _) | (with_reducible refine below_setRow ?_ ?_ _) | go_size))
    · have HS := hid (show detB a b c d = false by simp [detB, h1, h2])
      have H1 := hid h1
      have H2 := hid (Bool.eq_false_iff.2 h2)
      clear h1 h2
      have D1 := H1.out
      have D2 := H2.out
      go_enter Tryz.func28, Tryz.ntmps28
      go_wp2_with fail
      go_ret
      refine ⟨by rw [HS.out]; rfl, ?_⟩
      (try have hB0 := HB.out)
      (repeat' (first | (with_reducible exact Below.refl _ _) | (with_reducible assumption) | (with_reducible refine Below.alloc ?_ ?_ _) | (with_reducible refine Below.drew ?_) | (with_reducible refine below_drewN ?_ _) | (with_reducible refine Below.setCell ?_ ?_ _) | (with_reducible refine below_setRow ?_ ?_ _) | go_size))
  · have HS := hid (show detB a b c d = false by simp [detB, h1])
    have H1 := hid (Bool.eq_false_iff.2 h1)
    clear h1
    have D1 := H1.out
    go_enter Tryz.func28, Tryz.ntmps28
    go_wp2_with fail
    go_ret
    refine ⟨by rw [HS.out]; rfl, ?_⟩
    (try have hB0 := HB.out)
    (repeat' (first | (with_reducible exact Below.refl _ _) | (with_reducible assumption) | (with_reducible refine Below.alloc ?_ ?_ _) | (with_reducible refine Below.drew ?_) | (with_reducible refine below_drewN ?_ _) | (with_reducible refine Below.setCell ?_ ?_ _) | (with_reducible refine below_setRow ?_ ?_ _) | go_size))
def terB (t0 t1 t2 t3 t4 t5 t6 t7 t8 t9 : Int) : Bool := inB 1 10000000 t0 && inB 0 1000000 t1 && inB 0 100000 t2 && inB 1 1000000 t3 && inB 0 1000000 t4 && inB 0 1000000 t5 && inB 0 1000000 t6 && inB 0 1000000 t7 && inB 0 1000000 t8 && inB 1 1024 t9
def terX (t0 t1 t2 t3 t4 t5 t6 t7 t8 t9 : Int) : Bool := [t1, t4, t5, t6, t7, t8].all (inB 0 1000000) && inB 1 10000000 t0 && inB 0 100000 t2 && inB 1 1000000 t3 && inB 1 1024 t9
theorem terX_eq (t0 t1 t2 t3 t4 t5 t6 t7 t8 t9 : Int) : terX t0 t1 t2 t3 t4 t5 t6 t7 t8 t9 = terB t0 t1 t2 t3 t4 t5 t6 t7 t8 t9 := by
  unfold terX terB
  simp only [List.all_cons, List.all_nil, Bool.and_true]
  ac_rfl
theorem index6_0 (a b c d e f : Int) (w : World) : (Instr.index 291 (.agg #[.int .i64 a, .int .i64 b, .int .i64 c, .int .i64 d, .int .i64 e, .int .i64 f]) (.int .i64 0)).run Tryz.prog w = .ok (.int .i64 a) w := by kernel_rfl
theorem index6_1 (a b c d e f : Int) (w : World) : (Instr.index 291 (.agg #[.int .i64 a, .int .i64 b, .int .i64 c, .int .i64 d, .int .i64 e, .int .i64 f]) (.int .i64 1)).run Tryz.prog w = .ok (.int .i64 b) w := by kernel_rfl
theorem index6_2 (a b c d e f : Int) (w : World) : (Instr.index 291 (.agg #[.int .i64 a, .int .i64 b, .int .i64 c, .int .i64 d, .int .i64 e, .int .i64 f]) (.int .i64 2)).run Tryz.prog w = .ok (.int .i64 c) w := by kernel_rfl
theorem index6_3 (a b c d e f : Int) (w : World) : (Instr.index 291 (.agg #[.int .i64 a, .int .i64 b, .int .i64 c, .int .i64 d, .int .i64 e, .int .i64 f]) (.int .i64 3)).run Tryz.prog w = .ok (.int .i64 d) w := by kernel_rfl
theorem index6_4 (a b c d e f : Int) (w : World) : (Instr.index 291 (.agg #[.int .i64 a, .int .i64 b, .int .i64 c, .int .i64 d, .int .i64 e, .int .i64 f]) (.int .i64 4)).run Tryz.prog w = .ok (.int .i64 e) w := by kernel_rfl
theorem index6_5 (a b c d e f : Int) (w : World) : (Instr.index 291 (.agg #[.int .i64 a, .int .i64 b, .int .i64 c, .int .i64 d, .int .i64 e, .int .i64 f]) (.int .i64 5)).run Tryz.prog w = .ok (.int .i64 f) w := by kernel_rfl
theorem index6 (a b c d e f : Int) (k : Nat) (hk : k < 6) (w : World) :
    (Instr.index 291 (.agg #[.int .i64 a, .int .i64 b, .int .i64 c, .int .i64 d, .int .i64 e, .int .i64 f]) (.int .i64 (k : Int))).run Tryz.prog w = .ok (.int .i64 ([a, b, c, d, e, f].getD k 0)) w := by
  match k, hk with
  | 0, _ => exact index6_0 a b c d e f w
  | 1, _ => exact index6_1 a b c d e f w
  | 2, _ => exact index6_2 a b c d e f w
  | 3, _ => exact index6_3 a b c d e f w
  | 4, _ => exact index6_4 a b c d e f w
  | 5, _ => exact index6_5 a b c d e f w
set_option maxRecDepth 100000 in
theorem xTer_any (t0 t1 t2 t3 t4 t5 t6 t7 t8 t9 : Int) (w : World) :
    Calls Tryz.prog 61 #[.agg #[.int .i64 t0, .int .i64 t1, .int .i64 t2, .int .i64 t3, .int .i64 t4, .int .i64 t5, .int .i64 t6, .int .i64 t7, .int .i64 t8, .int .i64 t9]] w fun e w' => e = .returned (.bool (terB t0 t1 t2 t3 t4 t5 t6 t7 t8 t9)) ∧ Below w.heap.size w w' := by
  rw [← terX_eq]
  have HC := hid (show terX t0 t1 t2 t3 t4 t5 t6 t7 t8 t9 = terX t0 t1 t2 t3 t4 t5 t6 t7 t8 t9 from rfl)
  obtain ⟨tb, htb⟩ : ∃ tb, tb = terX t0 t1 t2 t3 t4 t5 t6 t7 t8 t9 := ⟨_, rfl⟩
  rw [← htb]
  have HNO := hid (fun (h : [t1, t4, t5, t6, t7, t8].all (inB 0 1000000) = false) => show tb = false by rw [htb]; unfold terX; rw [h]; rfl)
  have HYS := hid (fun (h : [t1, t4, t5, t6, t7, t8].all (inB 0 1000000) = true) => show tb = (inB 1 10000000 t0 && inB 0 100000 t2 && inB 1 1000000 t3 && inB 1 1024 t9) by rw [htb]; unfold terX; rw [h]; rfl)
  clear htb HC
  go_enter Tryz.func61, Tryz.ntmps61
  go_wp2_with fail
  go_loopw [18] (fun iv W => ∃ k : Nat, k ≤ 6 ∧ iv = .int .i64 (k : Int) ∧ ([t1, t4, t5, t6, t7, t8].take k).all (inB 0 1000000) = true ∧ Below w.heap.size w W ∧ W.heap[w.heap.size]? = some (.cells #[.int .i64 t0, .int .i64 t1, .int .i64 t2, .int .i64 t3, .int .i64 t4, .int .i64 t5, .int .i64 t6, .int .i64 t7, .int .i64 t8, .int .i64 t9] 27)) (fun iv _ => 6 - (intOf iv).toNat)
  case atStart => exact ⟨0, by omega, rfl, rfl, (Below.refl _ _).alloc (Nat.le_refl _) _, heap_alloc_at _ _ _ rfl⟩
  case round =>
    obtain ⟨k, hk, rfl, hall, hB, hkp⟩ := hrel
    have HA := hid hall
    have HBwr := hid hB
    have KP := hid hkp
    clear hall hB hkp
    by_cases hlt : k < 6
    · have hix := index6 t1 t4 t5 t6 t7 t8 k hlt
      have HSN := hid (inB_step (zs := [t1, t4, t5, t6, t7, t8]) hlt HA.out)
      have HST := hid (@inB_stop [t1, t4, t5, t6, t7, t8] (inB 0 1000000) k hlt)
      generalize [t1, t4, t5, t6, t7, t8].getD k 0 = z at *
      cases h3 : inB 0 1000000 z
      · have H3 := hid h3
        have HF := hid (HNO.out (HST.out h3))
        clear h3
        go_wp2_with fail
        refine (within_any _ _ _ _).mono ?_
        rintro r w1 ⟨rfl, rfl⟩
        rw [H3.out]
        go_wp2_with fail
        go_ret
        exact ⟨by rw [HF.out]; rfl, HBwr.out⟩
      · have H3 := hid h3
        have HX := hid (HSN.out.trans h3)
        clear h3
        go_wp2_with fail
        refine (within_any _ _ _ _).mono ?_
        rintro r w1 ⟨rfl, rfl⟩
        rw [H3.out]
        go_wp2_with fail
        exact ⟨⟨k + 1, by omega, by go_num, HX.out, HBwr.out, KP.out⟩, by simp [intOf]; omega⟩
    · obtain rfl : k = 6 := by omega
      have HY := hid (HYS.out HA.out)
      have c0 : wr.cell? ⟨w.heap.size, 0, none⟩ = some (.int .i64 t0) := (cell_row (j := 0) KP.out).trans rfl
      have c2 : wr.cell? ⟨w.heap.size, 2, none⟩ = some (.int .i64 t2) := (cell_row (j := 2) KP.out).trans rfl
      have c3 : wr.cell? ⟨w.heap.size, 3, none⟩ = some (.int .i64 t3) := (cell_row (j := 3) KP.out).trans rfl
      have c9 : wr.cell? ⟨w.heap.size, 9, none⟩ = some (.int .i64 t9) := (cell_row (j := 9) KP.out).trans rfl
      cases h0 : inB 1 10000000 t0
      · have HS := hid (show tb = false by rw [HY.out]; rw [h0]; simp)
        have H0 := hid h0
        clear h0
        go_wp2_with fail
        refine (within_any _ _ _ _).mono ?_
        rintro r w1 ⟨rfl, rfl⟩
        rw [H0.out]
        go_wp2_with fail
        go_ret
        exact ⟨by rw [HS.out]; rfl, HBwr.out⟩
      · cases h1 : inB 0 100000 t2
        · have HS := hid (show tb = false by rw [HY.out]; rw [h0, h1]; simp)
          have H0 := hid h0
          have H1 := hid h1
          clear h0 h1
          go_wp2_with fail
          refine (within_any _ _ _ _).mono ?_
          rintro r w1 ⟨rfl, rfl⟩
          rw [H0.out]
          go_wp2_with fail
          refine (within_any _ _ _ _).mono ?_
          rintro r w1 ⟨rfl, rfl⟩
          rw [H1.out]
          go_wp2_with fail
          go_ret
          exact ⟨by rw [HS.out]; rfl, HBwr.out⟩
        · cases h2 : inB 1 1000000 t3
          · have HS := hid (show tb = false by rw [HY.out]; rw [h0, h1, h2]; simp)
            have H0 := hid h0
            have H1 := hid h1
            have H2 := hid h2
            clear h0 h1 h2
            go_wp2_with fail
            refine (within_any _ _ _ _).mono ?_
            rintro r w1 ⟨rfl, rfl⟩
            rw [H0.out]
            go_wp2_with fail
            refine (within_any _ _ _ _).mono ?_
            rintro r w1 ⟨rfl, rfl⟩
            rw [H1.out]
            go_wp2_with fail
            refine (within_any _ _ _ _).mono ?_
            rintro r w1 ⟨rfl, rfl⟩
            rw [H2.out]
            go_wp2_with fail
            go_ret
            exact ⟨by rw [HS.out]; rfl, HBwr.out⟩
          · have HS := hid (show tb = inB 1 1024 t9 by rw [HY.out]; rw [h0, h1, h2]; simp)
            have H0 := hid h0
            have H1 := hid h1
            have H2 := hid h2
            clear h0 h1 h2
            go_wp2_with fail
            refine (within_any _ _ _ _).mono ?_
            rintro r w1 ⟨rfl, rfl⟩
            rw [H0.out]
            go_wp2_with fail
            refine (within_any _ _ _ _).mono ?_
            rintro r w1 ⟨rfl, rfl⟩
            rw [H1.out]
            go_wp2_with fail
            refine (within_any _ _ _ _).mono ?_
            rintro r w1 ⟨rfl, rfl⟩
            rw [H2.out]
            go_wp2_with fail
            refine (within_any _ _ _ _).mono ?_
            rintro r w1 ⟨rfl, rfl⟩
            go_wp2_with fail
            go_ret
            exact ⟨by rw [HS.out]; rfl, HBwr.out⟩
set_option maxRecDepth 100000 in
set_option maxHeartbeats 1600000 in
theorem rTer_any (t0 t1 t2 t3 t4 t5 t6 t7 t8 t9 : Int) (w : World) :
    Calls Tryz.prog 30 #[.agg #[.int .i64 t0, .int .i64 t1, .int .i64 t2, .int .i64 t3, .int .i64 t4, .int .i64 t5, .int .i64 t6, .int .i64 t7, .int .i64 t8, .int .i64 t9]] w fun e w' => e = .returned (.bool (terB t0 t1 t2 t3 t4 t5 t6 t7 t8 t9)) ∧ Below w.heap.size w w' := by
  by_cases h1 : inB 1 10000000 t0 = true
  · by_cases h2 : inB 0 1000000 t1 = true
    · by_cases h3 : inB 0 100000 t2 = true
      · by_cases h4 : inB 1 1000000 t3 = true
        · by_cases h5 : inB 0 1000000 t4 = true
          · by_cases h6 : inB 0 1000000 t5 = true
            · by_cases h7 : inB 0 1000000 t6 = true
              · by_cases h8 : inB 0 1000000 t7 = true
                · by_cases h9 : inB 0 1000000 t8 = true
                  · have HS := hid (show terB t0 t1 t2 t3 t4 t5 t6 t7 t8 t9 = inB 1 1024 t9 by simp [terB, h1, h2, h3, h4, h5, h6, h7, h8, h9])
                    have H1 := hid h1
                    have H2 := hid h2
                    have H3 := hid h3
                    have H4 := hid h4
                    have H5 := hid h5
                    have H6 := hid h6
                    have H7 := hid h7
                    have H8 := hid h8
                    have H9 := hid h9
                    clear h1 h2 h3 h4 h5 h6 h7 h8 h9
                    go_enter Tryz.func30, Tryz.ntmps30
                    go_wp2_with fail
                    refine (rwithin_any _ _ _ _).mono ?_
                    rintro r w1 ⟨rfl, rfl⟩
                    rw [H1.out]
                    go_wp2_with fail
                    refine (rwithin_any _ _ _ _).mono ?_
                    rintro r w1 ⟨rfl, rfl⟩
                    rw [H2.out]
                    go_wp2_with fail
                    refine (rwithin_any _ _ _ _).mono ?_
                    rintro r w1 ⟨rfl, rfl⟩
                    rw [H3.out]
                    go_wp2_with fail
                    refine (rwithin_any _ _ _ _).mono ?_
                    rintro r w1 ⟨rfl, rfl⟩
                    rw [H4.out]
                    go_wp2_with fail
                    refine (rwithin_any _ _ _ _).mono ?_
                    rintro r w1 ⟨rfl, rfl⟩
                    rw [H5.out]
                    go_wp2_with fail
                    refine (rwithin_any _ _ _ _).mono ?_
                    rintro r w1 ⟨rfl, rfl⟩
                    rw [H6.out]
                    go_wp2_with fail
                    refine (rwithin_any _ _ _ _).mono ?_
                    rintro r w1 ⟨rfl, rfl⟩
                    rw [H7.out]
                    go_wp2_with fail
                    refine (rwithin_any _ _ _ _).mono ?_
                    rintro r w1 ⟨rfl, rfl⟩
                    rw [H8.out]
                    go_wp2_with fail
                    refine (rwithin_any _ _ _ _).mono ?_
                    rintro r w1 ⟨rfl, rfl⟩
                    rw [H9.out]
                    go_wp2_with fail
                    refine (rwithin_any _ _ _ _).mono ?_
                    rintro r w1 ⟨rfl, rfl⟩
                    go_wp2_with fail
                    go_ret
                    refine ⟨by rw [HS.out]; rfl, ?_⟩
                    (try have hB0 := HB.out)
                    (repeat' (first | (with_reducible exact Below.refl _ _) | (with_reducible assumption) | (with_reducible refine Below.alloc ?_ ?_ _) | (with_reducible refine Below.drew ?_) | (with_reducible refine below_drewN ?_ _) | (with_reducible refine Below.setCell ?_ ?_ _) | (with_reducible refine below_setRow ?_ ?_ _) | go_size))
                  · have HS := hid (show terB t0 t1 t2 t3 t4 t5 t6 t7 t8 t9 = false by simp [terB, h1, h2, h3, h4, h5, h6, h7, h8, h9])
                    have H1 := hid h1
                    have H2 := hid h2
                    have H3 := hid h3
                    have H4 := hid h4
                    have H5 := hid h5
                    have H6 := hid h6
                    have H7 := hid h7
                    have H8 := hid h8
                    have H9 := hid (Bool.eq_false_iff.2 h9)
                    clear h1 h2 h3 h4 h5 h6 h7 h8 h9
                    go_enter Tryz.func30, Tryz.ntmps30
                    go_wp2_with fail
                    refine (rwithin_any _ _ _ _).mono ?_
                    rintro r w1 ⟨rfl, rfl⟩
                    rw [H1.out]
                    go_wp2_with fail
                    refine (rwithin_any _ _ _ _).mono ?_
                    rintro r w1 ⟨rfl, rfl⟩
                    rw [H2.out]
                    go_wp2_with fail
                    refine (rwithin_any _ _ _ _).mono ?_
                    rintro r w1 ⟨rfl, rfl⟩
                    rw [H3.out]
                    go_wp2_with fail
                    refine (rwithin_any _ _ _ _).mono ?_
                    rintro r w1 ⟨rfl, rfl⟩
                    rw [H4.out]
                    go_wp2_with fail
                    refine (rwithin_any _ _ _ _).mono ?_
                    rintro r w1 ⟨rfl, rfl⟩
                    rw [H5.out]
                    go_wp2_with fail
                    refine (rwithin_any _ _ _ _).mono ?_
                    rintro r w1 ⟨rfl, rfl⟩
                    rw [H6.out]
                    go_wp2_with fail
                    refine (rwithin_any _ _ _ _).mono ?_
                    rintro r w1 ⟨rfl, rfl⟩
                    rw [H7.out]
                    go_wp2_with fail
                    refine (rwithin_any _ _ _ _).mono ?_
                    rintro r w1 ⟨rfl, rfl⟩
                    rw [H8.out]
                    go_wp2_with fail
                    refine (rwithin_any _ _ _ _).mono ?_
                    rintro r w1 ⟨rfl, rfl⟩
                    rw [H9.out]
                    go_wp2_with fail
                    go_ret
                    refine ⟨by rw [HS.out]; rfl, ?_⟩
                    (try have hB0 := HB.out)
                    (repeat' (first | (with_reducible exact Below.refl _ _) | (with_reducible assumption) | (with_reducible refine Below.alloc ?_ ?_ _) | (with_reducible refine Below.drew ?_) | (with_reducible refine below_drewN ?_ _) | (with_reducible refine Below.setCell ?_ ?_ _) | (with_reducible refine below_setRow ?_ ?_ _) | go_size))
                · have HS := hid (show terB t0 t1 t2 t3 t4 t5 t6 t7 t8 t9 = false by simp [terB, h1, h2, h3, h4, h5, h6, h7, h8])
                  have H1 := hid h1
                  have H2 := hid h2
                  have H3 := hid h3
                  have H4 := hid h4
                  have H5 := hid h5
                  have H6 := hid h6
                  have H7 := hid h7
                  have H8 := hid (Bool.eq_false_iff.2 h8)
                  clear h1 h2 h3 h4 h5 h6 h7 h8
                  go_enter Tryz.func30, Tryz.ntmps30
                  go_wp2_with fail
                  refine (rwithin_any _ _ _ _).mono ?_
                  rintro r w1 ⟨rfl, rfl⟩
                  rw [H1.out]
                  go_wp2_with fail
                  refine (rwithin_any _ _ _ _).mono ?_
                  rintro r w1 ⟨rfl, rfl⟩
                  rw [H2.out]
                  go_wp2_with fail
                  refine (rwithin_any _ _ _ _).mono ?_
                  rintro r w1 ⟨rfl, rfl⟩
                  rw [H3.out]
                  go_wp2_with fail
                  refine (rwithin_any _ _ _ _).mono ?_
                  rintro r w1 ⟨rfl, rfl⟩
                  rw [H4.out]
                  go_wp2_with fail
                  refine (rwithin_any _ _ _ _).mono ?_
                  rintro r w1 ⟨rfl, rfl⟩
                  rw [H5.out]
                  go_wp2_with fail
                  refine (rwithin_any _ _ _ _).mono ?_
                  rintro r w1 ⟨rfl, rfl⟩
                  rw [H6.out]
                  go_wp2_with fail
                  refine (rwithin_any _ _ _ _).mono ?_
                  rintro r w1 ⟨rfl, rfl⟩
                  rw [H7.out]
                  go_wp2_with fail
                  refine (rwithin_any _ _ _ _).mono ?_
                  rintro r w1 ⟨rfl, rfl⟩
                  rw [H8.out]
                  go_wp2_with fail
                  go_ret
                  refine ⟨by rw [HS.out]; rfl, ?_⟩
                  (try have hB0 := HB.out)
                  (repeat' (first | (with_reducible exact Below.refl _ _) | (with_reducible assumption) | (with_reducible refine Below.alloc ?_ ?_ _) | (with_reducible refine Below.drew ?_) | (with_reducible refine below_drewN ?_ _) | (with_reducible refine Below.setCell ?_ ?_ _) | (with_reducible refine below_setRow ?_ ?_ _) | go_size))
              · have HS := hid (show terB t0 t1 t2 t3 t4 t5 t6 t7 t8 t9 = false by simp [terB, h1, h2, h3, h4, h5, h6, h7])
                have H1 := hid h1
                have H2 := hid h2
                have H3 := hid h3
                have H4 := hid h4
                have H5 := hid h5
                have H6 := hid h6
                have H7 := hid (Bool.eq_false_iff.2 h7)
                clear h1 h2 h3 h4 h5 h6 h7
                go_enter Tryz.func30, Tryz.ntmps30
                go_wp2_with fail
                refine (rwithin_any _ _ _ _).mono ?_
                rintro r w1 ⟨rfl, rfl⟩
                rw [H1.out]
                go_wp2_with fail
                refine (rwithin_any _ _ _ _).mono ?_
                rintro r w1 ⟨rfl, rfl⟩
                rw [H2.out]
                go_wp2_with fail
                refine (rwithin_any _ _ _ _).mono ?_
                rintro r w1 ⟨rfl, rfl⟩
                rw [H3.out]
                go_wp2_with fail
                refine (rwithin_any _ _ _ _).mono ?_
                rintro r w1 ⟨rfl, rfl⟩
                rw [H4.out]
                go_wp2_with fail
                refine (rwithin_any _ _ _ _).mono ?_
                rintro r w1 ⟨rfl, rfl⟩
                rw [H5.out]
                go_wp2_with fail
                refine (rwithin_any _ _ _ _).mono ?_
                rintro r w1 ⟨rfl, rfl⟩
                rw [H6.out]
                go_wp2_with fail
                refine (rwithin_any _ _ _ _).mono ?_
                rintro r w1 ⟨rfl, rfl⟩
                rw [H7.out]
                go_wp2_with fail
                go_ret
                refine ⟨by rw [HS.out]; rfl, ?_⟩
                (try have hB0 := HB.out)
                (repeat' (first | (with_reducible exact Below.refl _ _) | (with_reducible assumption) | (with_reducible refine Below.alloc ?_ ?_ _) | (with_reducible refine Below.drew ?_) | (with_reducible refine below_drewN ?_ _) | (with_reducible refine Below.setCell ?_ ?_ _) | (with_reducible refine below_setRow ?_ ?_ _) | go_size))
            · have HS := hid (show terB t0 t1 t2 t3 t4 t5 t6 t7 t8 t9 = false by simp [terB, h1, h2, h3, h4, h5, h6])
              have H1 := hid h1
              have H2 := hid h2
              have H3 := hid h3
              have H4 := hid h4
              have H5 := hid h5
              have H6 := hid (Bool.eq_false_iff.2 h6)
              clear h1 h2 h3 h4 h5 h6
              go_enter Tryz.func30, Tryz.ntmps30
              go_wp2_with fail
              refine (rwithin_any _ _ _ _).mono ?_
              rintro r w1 ⟨rfl, rfl⟩
              rw [H1.out]
              go_wp2_with fail
              refine (rwithin_any _ _ _ _).mono ?_
              rintro r w1 ⟨rfl, rfl⟩
              rw [H2.out]
              go_wp2_with fail
              refine (rwithin_any _ _ _ _).mono ?_
              rintro r w1 ⟨rfl, rfl⟩
              rw [H3.out]
              go_wp2_with fail
              refine (rwithin_any _ _ _ _).mono ?_
              rintro r w1 ⟨rfl, rfl⟩
              rw [H4.out]
              go_wp2_with fail
              refine (rwithin_any _ _ _ _).mono ?_
              rintro r w1 ⟨rfl, rfl⟩
              rw [H5.out]
              go_wp2_with fail
              refine (rwithin_any _ _ _ _).mono ?_
              rintro r w1 ⟨rfl, rfl⟩
              rw [H6.out]
              go_wp2_with fail
              go_ret
              refine ⟨by rw [HS.out]; rfl, ?_⟩
              (try have hB0 := HB.out)
              (repeat' (first | (with_reducible exact Below.refl _ _) | (with_reducible assumption) | (with_reducible refine Below.alloc ?_ ?_ _) | (with_reducible refine Below.drew ?_) | (with_reducible refine below_drewN ?_ _) | (with_reducible refine Below.setCell ?_ ?_ _) | (with_reducible refine below_setRow ?_ ?_ _) | go_size))
          · have HS := hid (show terB t0 t1 t2 t3 t4 t5 t6 t7 t8 t9 = false by simp [terB, h1, h2, h3, h4, h5])
            have H1 := hid h1
            have H2 := hid h2
            have H3 := hid h3
            have H4 := hid h4
            have H5 := hid (Bool.eq_false_iff.2 h5)
            clear h1 h2 h3 h4 h5
            go_enter Tryz.func30, Tryz.ntmps30
            go_wp2_with fail
            refine (rwithin_any _ _ _ _).mono ?_
            rintro r w1 ⟨rfl, rfl⟩
            rw [H1.out]
            go_wp2_with fail
            refine (rwithin_any _ _ _ _).mono ?_
            rintro r w1 ⟨rfl, rfl⟩
            rw [H2.out]
            go_wp2_with fail
            refine (rwithin_any _ _ _ _).mono ?_
            rintro r w1 ⟨rfl, rfl⟩
            rw [H3.out]
            go_wp2_with fail
            refine (rwithin_any _ _ _ _).mono ?_
            rintro r w1 ⟨rfl, rfl⟩
            rw [H4.out]
            go_wp2_with fail
            refine (rwithin_any _ _ _ _).mono ?_
            rintro r w1 ⟨rfl, rfl⟩
            rw [H5.out]
            go_wp2_with fail
            go_ret
            refine ⟨by rw [HS.out]; rfl, ?_⟩
            (try have hB0 := HB.out)
            (repeat' (first | (with_reducible exact Below.refl _ _) | (with_reducible assumption) | (with_reducible refine Below.alloc ?_ ?_ _) | (with_reducible refine Below.drew ?_) | (with_reducible refine below_drewN ?_ _) | (with_reducible refine Below.setCell ?_ ?_ _) | (with_reducible refine below_setRow ?_ ?_ _) | go_size))
        · have HS := hid (show terB t0 t1 t2 t3 t4 t5 t6 t7 t8 t9 = false by simp [terB, h1, h2, h3, h4])
          have H1 := hid h1
          have H2 := hid h2
          have H3 := hid h3
          have H4 := hid (Bool.eq_false_iff.2 h4)
          clear h1 h2 h3 h4
          go_enter Tryz.func30, Tryz.ntmps30
          go_wp2_with fail
          refine (rwithin_any _ _ _ _).mono ?_
          rintro r w1 ⟨rfl, rfl⟩
          rw [H1.out]
          go_wp2_with fail
          refine (rwithin_any _ _ _ _).mono ?_
          rintro r w1 ⟨rfl, rfl⟩
          rw [H2.out]
          go_wp2_with fail
          refine (rwithin_any _ _ _ _).mono ?_
          rintro r w1 ⟨rfl, rfl⟩
          rw [H3.out]
          go_wp2_with fail
          refine (rwithin_any _ _ _ _).mono ?_
          rintro r w1 ⟨rfl, rfl⟩
          rw [H4.out]
          go_wp2_with fail
          go_ret
          refine ⟨by rw [HS.out]; rfl, ?_⟩
          (try have hB0 := HB.out)
          (repeat' (first | (with_reducible exact Below.refl _ _) | (with_reducible assumption) | (with_reducible refine Below.alloc ?_ ?_ _) | (with_reducible refine Below.drew ?_) | (with_reducible refine below_drewN ?_ _) | (with_reducible refine Below.setCell ?_ ?_ _) | (with_reducible refine below_setRow ?_ ?_ _) | go_size))
      · have HS := hid (show terB t0 t1 t2 t3 t4 t5 t6 t7 t8 t9 = false by simp [terB, h1, h2, h3])
        have H1 := hid h1
        have H2 := hid h2
        have H3 := hid (Bool.eq_false_iff.2 h3)
        clear h1 h2 h3
        go_enter Tryz.func30, Tryz.ntmps30
        go_wp2_with fail
        refine (rwithin_any _ _ _ _).mono ?_
        rintro r w1 ⟨rfl, rfl⟩
        rw [H1.out]
        go_wp2_with fail
        refine (rwithin_any _ _ _ _).mono ?_
        rintro r w1 ⟨rfl, rfl⟩
        rw [H2.out]
        go_wp2_with fail
        refine (rwithin_any _ _ _ _).mono ?_
        rintro r w1 ⟨rfl, rfl⟩
        rw [H3.out]
        go_wp2_with fail
        go_ret
        refine ⟨by rw [HS.out]; rfl, ?_⟩
        (try have hB0 := HB.out)
        (repeat' (first | (with_reducible exact Below.refl _ _) | (with_reducible assumption) | (with_reducible refine Below.alloc ?_ ?_ _) | (with_reducible refine Below.drew ?_) | (with_reducible refine below_drewN ?_ _) | (with_reducible refine Below.setCell ?_ ?_ _) | (with_reducible refine below_setRow ?_ ?_ _) | go_size))
    · have HS := hid (show terB t0 t1 t2 t3 t4 t5 t6 t7 t8 t9 = false by simp [terB, h1, h2])
      have H1 := hid h1
      have H2 := hid (Bool.eq_false_iff.2 h2)
      clear h1 h2
      go_enter Tryz.func30, Tryz.ntmps30
      go_wp2_with fail
      refine (rwithin_any _ _ _ _).mono ?_
      rintro r w1 ⟨rfl, rfl⟩
      rw [H1.out]
      go_wp2_with fail
      refine (rwithin_any _ _ _ _).mono ?_
      rintro r w1 ⟨rfl, rfl⟩
      rw [H2.out]
      go_wp2_with fail
      go_ret
      refine ⟨by rw [HS.out]; rfl, ?_⟩
      (try have hB0 := HB.out)
      (repeat' (first | (with_reducible exact Below.refl _ _) | (with_reducible assumption) | (with_reducible refine Below.alloc ?_ ?_ _) | (with_reducible refine Below.drew ?_) | (with_reducible refine below_drewN ?_ _) | (with_reducible refine Below.setCell ?_ ?_ _) | (with_reducible refine below_setRow ?_ ?_ _) | go_size))
  · have HS := hid (show terB t0 t1 t2 t3 t4 t5 t6 t7 t8 t9 = false by simp [terB, h1])
    have H1 := hid (Bool.eq_false_iff.2 h1)
    clear h1
    go_enter Tryz.func30, Tryz.ntmps30
    go_wp2_with fail
    refine (rwithin_any _ _ _ _).mono ?_
    rintro r w1 ⟨rfl, rfl⟩
    rw [H1.out]
    go_wp2_with fail
    go_ret
    refine ⟨by rw [HS.out]; rfl, ?_⟩
    (try have hB0 := HB.out)
    (repeat' (first | (with_reducible exact Below.refl _ _) | (with_reducible assumption) | (with_reducible refine Below.alloc ?_ ?_ _) | (with_reducible refine Below.drew ?_) | (with_reducible refine below_drewN ?_ _) | (with_reducible refine Below.setCell ?_ ?_ _) | (with_reducible refine below_setRow ?_ ?_ _) | go_size))
def cfgB (a0 a1 a2 a3 d0 d1 d2 d3 m0 m1 m2 m3 t0 t1 t2 t3 t4 t5 t6 t7 t8 t9 : Int) : Bool := inB 1 8 a0 && inB 1 64 a1 && inB 1 64 a2 && decide (0 ≤ a3) && detB d0 d1 d2 d3 && rulesB m0 m1 m2 m3 && terB t0 t1 t2 t3 t4 t5 t6 t7 t8 t9
set_option maxRecDepth 100000 in
set_option maxHeartbeats 1600000 in
theorem xCfg_any (a0 a1 a2 a3 d0 d1 d2 d3 m0 m1 m2 m3 t0 t1 t2 t3 t4 t5 t6 t7 t8 t9 : Int) (w : World) :
    Calls Tryz.prog 23 #[.agg #[.int .i64 a0, .int .i64 a1, .int .i64 a2, .int .i64 a3, .int .i64 d0, .int .i64 d1, .int .i64 d2, .int .i64 d3, .int .i64 m0, .int .i64 m1, .int .i64 m2, .int .i64 m3, .int .i64 t0, .int .i64 t1, .int .i64 t2, .int .i64 t3, .int .i64 t4, .int .i64 t5, .int .i64 t6, .int .i64 t7, .int .i64 t8, .int .i64 t9]] w fun e w' => e = .returned (.bool (cfgB a0 a1 a2 a3 d0 d1 d2 d3 m0 m1 m2 m3 t0 t1 t2 t3 t4 t5 t6 t7 t8 t9)) ∧ Below w.heap.size w w' := by
  by_cases h1 : inB 1 8 a0 = true
  · by_cases h2 : inB 1 64 a1 = true
    · by_cases h3 : inB 1 64 a2 = true
      · by_cases h4 : decide (0 ≤ a3) = true
        · by_cases h5 : detB d0 d1 d2 d3 = true
          · by_cases h6 : rulesB m0 m1 m2 m3 = true
            · have HS := hid (show cfgB a0 a1 a2 a3 d0 d1 d2 d3 m0 m1 m2 m3 t0 t1 t2 t3 t4 t5 t6 t7 t8 t9 = terB t0 t1 t2 t3 t4 t5 t6 t7 t8 t9 by simp [cfgB, h1, h2, h3, h4, h5, h6])
              have H1 := hid h1
              have H2 := hid h2
              have H3 := hid h3
              have H4 := hid h4
              have H5 := hid h5
              have H6 := hid h6
              clear h1 h2 h3 h4 h5 h6
              have D4 := H4.out
              go_enter Tryz.func23, Tryz.ntmps23
              go_wp2_with fail
              refine (in_any _ _ _ _).mono ?_
              rintro r w1 ⟨rfl, rfl⟩
              rw [H1.out]
              go_wp2_with fail
              refine (in_any _ _ _ _).mono ?_
              rintro r w1 ⟨rfl, rfl⟩
              rw [H2.out]
              go_wp2_with fail
              refine (in_any _ _ _ _).mono ?_
              rintro r w1 ⟨rfl, rfl⟩
              rw [H3.out]
              go_wp2_with fail
              refine (xDet_any _ _ _ _ _).mono ?_
              rintro r w1 ⟨rfl, hb1⟩
              have K1 := hid (heap_still hb1 (heap_alloc_at w (.cells #[.int .i64 a0, .int .i64 a1, .int .i64 a2, .int .i64 a3, .int .i64 d0, .int .i64 d1, .int .i64 d2, .int .i64 d3, .int .i64 m0, .int .i64 m1, .int .i64 m2, .int .i64 m3, .int .i64 t0, .int .i64 t1, .int .i64 t2, .int .i64 t3, .int .i64 t4, .int .i64 t5, .int .i64 t6, .int .i64 t7, .int .i64 t8, .int .i64 t9] 29) _ rfl))
              have HB1 := hid (show Below w.heap.size w w1 from ((Below.refl _ _).alloc (Nat.le_refl _) _).trans (hb1.mono (by simp)))
              have HB := HB1
              clear hb1
              have q8 : w1.cell? ⟨w.heap.size, 8, none⟩ = some (.int .i64 m0) := (cell_row (j := 8) K1.out).trans rfl
              have q9 : w1.cell? ⟨w.heap.size, 9, none⟩ = some (.int .i64 m1) := (cell_row (j := 9) K1.out).trans rfl
              have q10 : w1.cell? ⟨w.heap.size, 10, none⟩ = some (.int .i64 m2) := (cell_row (j := 10) K1.out).trans rfl
              have q11 : w1.cell? ⟨w.heap.size, 11, none⟩ = some (.int .i64 m3) := (cell_row (j := 11) K1.out).trans rfl
              rw [H5.out]
              go_wp2_with fail
              refine (xRules_any _ _ _ _ _).mono ?_
              rintro r w2 ⟨rfl, hb2⟩
              have K2 := hid (heap_still hb2 K1.out)
              have HB2 := hid (show Below w.heap.size w w2 from HB1.out.trans (hb2.mono HB1.out.size))
              have HB := HB2
              clear hb2 q8 q9 q10 q11
              have q12 : w2.cell? ⟨w.heap.size, 12, none⟩ = some (.int .i64 t0) := (cell_row (j := 12) K2.out).trans rfl
              have q13 : w2.cell? ⟨w.heap.size, 13, none⟩ = some (.int .i64 t1) := (cell_row (j := 13) K2.out).trans rfl
              have q14 : w2.cell? ⟨w.heap.size, 14, none⟩ = some (.int .i64 t2) := (cell_row (j := 14) K2.out).trans rfl
              have q15 : w2.cell? ⟨w.heap.size, 15, none⟩ = some (.int .i64 t3) := (cell_row (j := 15) K2.out).trans rfl
              have q16 : w2.cell? ⟨w.heap.size, 16, none⟩ = some (.int .i64 t4) := (cell_row (j := 16) K2.out).trans rfl
              have q17 : w2.cell? ⟨w.heap.size, 17, none⟩ = some (.int .i64 t5) := (cell_row (j := 17) K2.out).trans rfl
              have q18 : w2.cell? ⟨w.heap.size, 18, none⟩ = some (.int .i64 t6) := (cell_row (j := 18) K2.out).trans rfl
              have q19 : w2.cell? ⟨w.heap.size, 19, none⟩ = some (.int .i64 t7) := (cell_row (j := 19) K2.out).trans rfl
              have q20 : w2.cell? ⟨w.heap.size, 20, none⟩ = some (.int .i64 t8) := (cell_row (j := 20) K2.out).trans rfl
              have q21 : w2.cell? ⟨w.heap.size, 21, none⟩ = some (.int .i64 t9) := (cell_row (j := 21) K2.out).trans rfl
              rw [H6.out]
              go_wp2_with fail
              refine (xTer_any _ _ _ _ _ _ _ _ _ _ _).mono ?_
              rintro r w3 ⟨rfl, hb3⟩
              have HB := hid (show Below w.heap.size w w3 from HB2.out.trans (hb3.mono HB2.out.size))
              clear hb3
              go_wp2_with fail
              go_ret
              refine ⟨by rw [HS.out]; rfl, ?_⟩
              (try have hB0 := HB.out)
              (repeat' (first | (with_reducible exact Below.refl _ _) | (with_reducible assumption) | (with_reducible refine Below.alloc ?_ ?_ _) | (with_reducible refine Below.drew ?_) | (with_reducible refine below_drewN ?_ _) | (with_reducible refine Below.setCell ?_ ?_ _) | (with_reducible refine below_setRow ?_ ?_ _) | go_size))
            · have HS := hid (show cfgB a0 a1 a2 a3 d0 d1 d2 d3 m0 m1 m2 m3 t0 t1 t2 t3 t4 t5 t6 t7 t8 t9 = false by simp [cfgB, h1, h2, h3, h4, h5, h6])
              have H1 := hid h1
              have H2 := hid h2
              have H3 := hid h3
              have H4 := hid h4
              have H5 := hid h5
              have H6 := hid (Bool.eq_false_iff.2 h6)
              clear h1 h2 h3 h4 h5 h6
              have D4 := H4.out
              go_enter Tryz.func23, Tryz.ntmps23
              go_wp2_with fail
              refine (in_any _ _ _ _).mono ?_
              rintro r w1 ⟨rfl, rfl⟩
              rw [H1.out]
              go_wp2_with fail
              refine (in_any _ _ _ _).mono ?_
              rintro r w1 ⟨rfl, rfl⟩
              rw [H2.out]
              go_wp2_with fail
              refine (in_any _ _ _ _).mono ?_
              rintro r w1 ⟨rfl, rfl⟩
              rw [H3.out]
              go_wp2_with fail
              refine (xDet_any _ _ _ _ _).mono ?_
              rintro r w1 ⟨rfl, hb1⟩
              have K1 := hid (heap_still hb1 (heap_alloc_at w (.cells #[.int .i64 a0, .int .i64 a1, .int .i64 a2, .int .i64 a3, .int .i64 d0, .int .i64 d1, .int .i64 d2, .int .i64 d3, .int .i64 m0, .int .i64 m1, .int .i64 m2, .int .i64 m3, .int .i64 t0, .int .i64 t1, .int .i64 t2, .int .i64 t3, .int .i64 t4, .int .i64 t5, .int .i64 t6, .int .i64 t7, .int .i64 t8, .int .i64 t9] 29) _ rfl))
              have HB1 := hid (show Below w.heap.size w w1 from ((Below.refl _ _).alloc (Nat.le_refl _) _).trans (hb1.mono (by simp)))
              have HB := HB1
              clear hb1
              have q8 : w1.cell? ⟨w.heap.size, 8, none⟩ = some (.int .i64 m0) := (cell_row (j := 8) K1.out).trans rfl
              have q9 : w1.cell? ⟨w.heap.size, 9, none⟩ = some (.int .i64 m1) := (cell_row (j := 9) K1.out).trans rfl
              have q10 : w1.cell? ⟨w.heap.size, 10, none⟩ = some (.int .i64 m2) := (cell_row (j := 10) K1.out).trans rfl
              have q11 : w1.cell? ⟨w.heap.size, 11, none⟩ = some (.int .i64 m3) := (cell_row (j := 11) K1.out).trans rfl
              rw [H5.out]
              go_wp2_with fail
              refine (xRules_any _ _ _ _ _).mono ?_
              rintro r w2 ⟨rfl, hb2⟩
              have K2 := hid (heap_still hb2 K1.out)
              have HB2 := hid (show Below w.heap.size w w2 from HB1.out.trans (hb2.mono HB1.out.size))
              have HB := HB2
              clear hb2 q8 q9 q10 q11
              have q12 : w2.cell? ⟨w.heap.size, 12, none⟩ = some (.int .i64 t0) := (cell_row (j := 12) K2.out).trans rfl
              have q13 : w2.cell? ⟨w.heap.size, 13, none⟩ = some (.int .i64 t1) := (cell_row (j := 13) K2.out).trans rfl
              have q14 : w2.cell? ⟨w.heap.size, 14, none⟩ = some (.int .i64 t2) := (cell_row (j := 14) K2.out).trans rfl
              have q15 : w2.cell? ⟨w.heap.size, 15, none⟩ = some (.int .i64 t3) := (cell_row (j := 15) K2.out).trans rfl
              have q16 : w2.cell? ⟨w.heap.size, 16, none⟩ = some (.int .i64 t4) := (cell_row (j := 16) K2.out).trans rfl
              have q17 : w2.cell? ⟨w.heap.size, 17, none⟩ = some (.int .i64 t5) := (cell_row (j := 17) K2.out).trans rfl
              have q18 : w2.cell? ⟨w.heap.size, 18, none⟩ = some (.int .i64 t6) := (cell_row (j := 18) K2.out).trans rfl
              have q19 : w2.cell? ⟨w.heap.size, 19, none⟩ = some (.int .i64 t7) := (cell_row (j := 19) K2.out).trans rfl
              have q20 : w2.cell? ⟨w.heap.size, 20, none⟩ = some (.int .i64 t8) := (cell_row (j := 20) K2.out).trans rfl
              have q21 : w2.cell? ⟨w.heap.size, 21, none⟩ = some (.int .i64 t9) := (cell_row (j := 21) K2.out).trans rfl
              rw [H6.out]
              go_wp2_with fail
              go_ret
              refine ⟨by rw [HS.out]; rfl, ?_⟩
              (try have hB0 := HB.out)
              (repeat' (first | (with_reducible exact Below.refl _ _) | (with_reducible assumption) | (with_reducible refine Below.alloc ?_ ?_ _) | (with_reducible refine Below.drew ?_) | (with_reducible refine below_drewN ?_ _) | (with_reducible refine Below.setCell ?_ ?_ _) | (with_reducible refine below_setRow ?_ ?_ _) | go_size))
          · have HS := hid (show cfgB a0 a1 a2 a3 d0 d1 d2 d3 m0 m1 m2 m3 t0 t1 t2 t3 t4 t5 t6 t7 t8 t9 = false by simp [cfgB, h1, h2, h3, h4, h5])
            have H1 := hid h1
            have H2 := hid h2
            have H3 := hid h3
            have H4 := hid h4
            have H5 := hid (Bool.eq_false_iff.2 h5)
            clear h1 h2 h3 h4 h5
            have D4 := H4.out
            go_enter Tryz.func23, Tryz.ntmps23
            go_wp2_with fail
            refine (in_any _ _ _ _).mono ?_
            rintro r w1 ⟨rfl, rfl⟩
            rw [H1.out]
            go_wp2_with fail
            refine (in_any _ _ _ _).mono ?_
            rintro r w1 ⟨rfl, rfl⟩
            rw [H2.out]
            go_wp2_with fail
            refine (in_any _ _ _ _).mono ?_
            rintro r w1 ⟨rfl, rfl⟩
            rw [H3.out]
            go_wp2_with fail
            refine (xDet_any _ _ _ _ _).mono ?_
            rintro r w1 ⟨rfl, hb1⟩
            have K1 := hid (heap_still hb1 (heap_alloc_at w (.cells #[.int .i64 a0, .int .i64 a1, .int .i64 a2, .int .i64 a3, .int .i64 d0, .int .i64 d1, .int .i64 d2, .int .i64 d3, .int .i64 m0, .int .i64 m1, .int .i64 m2, .int .i64 m3, .int .i64 t0, .int .i64 t1, .int .i64 t2, .int .i64 t3, .int .i64 t4, .int .i64 t5, .int .i64 t6, .int .i64 t7, .int .i64 t8, .int .i64 t9] 29) _ rfl))
            have HB1 := hid (show Below w.heap.size w w1 from ((Below.refl _ _).alloc (Nat.le_refl _) _).trans (hb1.mono (by simp)))
            have HB := HB1
            clear hb1
            have q8 : w1.cell? ⟨w.heap.size, 8, none⟩ = some (.int .i64 m0) := (cell_row (j := 8) K1.out).trans rfl
            have q9 : w1.cell? ⟨w.heap.size, 9, none⟩ = some (.int .i64 m1) := (cell_row (j := 9) K1.out).trans rfl
            have q10 : w1.cell? ⟨w.heap.size, 10, none⟩ = some (.int .i64 m2) := (cell_row (j := 10) K1.out).trans rfl
            have q11 : w1.cell? ⟨w.heap.size, 11, none⟩ = some (.int .i64 m3) := (cell_row (j := 11) K1.out).trans rfl
            rw [H5.out]
            go_wp2_with fail
            go_ret
            refine ⟨by rw [HS.out]; rfl, ?_⟩
            (try have hB0 := HB.out)
            (repeat' (first | (with_reducible exact Below.refl _ _) | (with_reducible assumption) | (with_reducible refine Below.alloc ?_ ?_ _) | (with_reducible refine Below.drew ?_) | (with_reducible refine below_drewN ?_ _) | (with_reducible refine Below.setCell ?_ ?_ _) | (with_reducible refine below_setRow ?_ ?_ _) | go_size))
        · have HS := hid (show cfgB a0 a1 a2 a3 d0 d1 d2 d3 m0 m1 m2 m3 t0 t1 t2 t3 t4 t5 t6 t7 t8 t9 = false by simp [cfgB, h1, h2, h3, h4])
          have H1 := hid h1
          have H2 := hid h2
          have H3 := hid h3
          have H4 := hid (Bool.eq_false_iff.2 h4)
          clear h1 h2 h3 h4
          have D4 := H4.out
          go_enter Tryz.func23, Tryz.ntmps23
          go_wp2_with fail
          refine (in_any _ _ _ _).mono ?_
          rintro r w1 ⟨rfl, rfl⟩
          rw [H1.out]
          go_wp2_with fail
          refine (in_any _ _ _ _).mono ?_
          rintro r w1 ⟨rfl, rfl⟩
          rw [H2.out]
          go_wp2_with fail
          refine (in_any _ _ _ _).mono ?_
          rintro r w1 ⟨rfl, rfl⟩
          rw [H3.out]
          go_wp2_with fail
          go_ret
          refine ⟨by rw [HS.out]; rfl, ?_⟩
          (try have hB0 := HB.out)
          (repeat' (first | (with_reducible exact Below.refl _ _) | (with_reducible assumption) | (with_reducible refine Below.alloc ?_ ?_ _) | (with_reducible refine Below.drew ?_) | (with_reducible refine below_drewN ?_ _) | (with_reducible refine Below.setCell ?_ ?_ _) | (with_reducible refine below_setRow ?_ ?_ _) | go_size))
      · have HS := hid (show cfgB a0 a1 a2 a3 d0 d1 d2 d3 m0 m1 m2 m3 t0 t1 t2 t3 t4 t5 t6 t7 t8 t9 = false by simp [cfgB, h1, h2, h3])
        have H1 := hid h1
        have H2 := hid h2
        have H3 := hid (Bool.eq_false_iff.2 h3)
        clear h1 h2 h3
        go_enter Tryz.func23, Tryz.ntmps23
        go_wp2_with fail
        refine (in_any _ _ _ _).mono ?_
        rintro r w1 ⟨rfl, rfl⟩
        rw [H1.out]
        go_wp2_with fail
        refine (in_any _ _ _ _).mono ?_
        rintro r w1 ⟨rfl, rfl⟩
        rw [H2.out]
        go_wp2_with fail
        refine (in_any _ _ _ _).mono ?_
        rintro r w1 ⟨rfl, rfl⟩
        rw [H3.out]
        go_wp2_with fail
        go_ret
        refine ⟨by rw [HS.out]; rfl, ?_⟩
        (try have hB0 := HB.out)
        (repeat' (first | (with_reducible exact Below.refl _ _) | (with_reducible assumption) | (with_reducible refine Below.alloc ?_ ?_ _) | (with_reducible refine Below.drew ?_) | (with_reducible refine below_drewN ?_ _) | (with_reducible refine Below.setCell ?_ ?_ _) | (with_reducible refine below_setRow ?_ ?_ _) | go_size))
    · have HS := hid (show cfgB a0 a1 a2 a3 d0 d1 d2 d3 m0 m1 m2 m3 t0 t1 t2 t3 t4 t5 t6 t7 t8 t9 = false by simp [cfgB, h1, h2])
      have H1 := hid h1
      have H2 := hid (Bool.eq_false_iff.2 h2)
      clear h1 h2
      go_enter Tryz.func23, Tryz.ntmps23
      go_wp2_with fail
      refine (in_any _ _ _ _).mono ?_
      rintro r w1 ⟨rfl, rfl⟩
      rw [H1.out]
      go_wp2_with fail
      refine (in_any _ _ _ _).mono ?_
      rintro r w1 ⟨rfl, rfl⟩
      rw [H2.out]
      go_wp2_with fail
      go_ret
      refine ⟨by rw [HS.out]; rfl, ?_⟩
      (try have hB0 := HB.out)
      (repeat' (first | (with_reducible exact Below.refl _ _) | (with_reducible assumption) | (with_reducible refine Below.alloc ?_ ?_ _) | (with_reducible refine Below.drew ?_) | (with_reducible refine below_drewN ?_ _) | (with_reducible refine Below.setCell ?_ ?_ _) | (with_reducible refine below_setRow ?_ ?_ _) | go_size))
  · have HS := hid (show cfgB a0 a1 a2 a3 d0 d1 d2 d3 m0 m1 m2 m3 t0 t1 t2 t3 t4 t5 t6 t7 t8 t9 = false by simp [cfgB, h1])
    have H1 := hid (Bool.eq_false_iff.2 h1)
    clear h1
    go_enter Tryz.func23, Tryz.ntmps23
    go_wp2_with fail
    refine (in_any _ _ _ _).mono ?_
    rintro r w1 ⟨rfl, rfl⟩
    rw [H1.out]
    go_wp2_with fail
    go_ret
    refine ⟨by rw [HS.out]; rfl, ?_⟩
    (try have hB0 := HB.out)
    (repeat' (first | (with_reducible exact Below.refl _ _) | (with_reducible assumption) | (with_reducible refine Below.alloc ?_ ?_ _) | (with_reducible refine Below.drew ?_) | (with_reducible refine below_drewN ?_ _) | (with_reducible refine Below.setCell ?_ ?_ _) | (with_reducible refine below_setRow ?_ ?_ _) | go_size))
set_option maxRecDepth 100000 in
set_option maxHeartbeats 1600000 in
theorem rCfg_any (a0 a1 a2 a3 d0 d1 d2 d3 m0 m1 m2 m3 t0 t1 t2 t3 t4 t5 t6 t7 t8 t9 : Int) (w : World) :
    Calls Tryz.prog 6 #[.agg #[.int .i64 a0, .int .i64 a1, .int .i64 a2, .int .i64 a3, .int .i64 d0, .int .i64 d1, .int .i64 d2, .int .i64 d3, .int .i64 m0, .int .i64 m1, .int .i64 m2, .int .i64 m3, .int .i64 t0, .int .i64 t1, .int .i64 t2, .int .i64 t3, .int .i64 t4, .int .i64 t5, .int .i64 t6, .int .i64 t7, .int .i64 t8, .int .i64 t9]] w fun e w' => e = .returned (.bool (cfgB a0 a1 a2 a3 d0 d1 d2 d3 m0 m1 m2 m3 t0 t1 t2 t3 t4 t5 t6 t7 t8 t9)) ∧ Below w.heap.size w w' := by
  by_cases h1 : inB 1 8 a0 = true
  · by_cases h2 : inB 1 64 a1 = true
    · by_cases h3 : inB 1 64 a2 = true
      · by_cases h4 : decide (0 ≤ a3) = true
        · by_cases h5 : detB d0 d1 d2 d3 = true
          · by_cases h6 : rulesB m0 m1 m2 m3 = true
            · have HS := hid (show cfgB a0 a1 a2 a3 d0 d1 d2 d3 m0 m1 m2 m3 t0 t1 t2 t3 t4 t5 t6 t7 t8 t9 = terB t0 t1 t2 t3 t4 t5 t6 t7 t8 t9 by simp [cfgB, h1, h2, h3, h4, h5, h6])
              have H1 := hid h1
              have H2 := hid h2
              have H3 := hid h3
              have H4 := hid h4
              have H5 := hid h5
              have H6 := hid h6
              clear h1 h2 h3 h4 h5 h6
              have D4 := H4.out
              go_enter Tryz.func6, Tryz.ntmps6
              go_wp2_with fail
              refine (rfrom_any _ _ _ _).mono ?_
              rintro r w1 ⟨rfl, rfl⟩
              rw [H1.out]
              go_wp2_with fail
              refine (rfrom_any _ _ _ _).mono ?_
              rintro r w1 ⟨rfl, rfl⟩
              rw [H2.out]
              go_wp2_with fail
              refine (rfrom_any _ _ _ _).mono ?_
              rintro r w1 ⟨rfl, rfl⟩
              rw [H3.out]
              go_wp2_with fail
              refine (rDet_any _ _ _ _ _).mono ?_
              rintro r w1 ⟨rfl, hb1⟩
              have K1 := hid (heap_still hb1 (heap_alloc_at w (.cells #[.int .i64 a0, .int .i64 a1, .int .i64 a2, .int .i64 a3, .int .i64 d0, .int .i64 d1, .int .i64 d2, .int .i64 d3, .int .i64 m0, .int .i64 m1, .int .i64 m2, .int .i64 m3, .int .i64 t0, .int .i64 t1, .int .i64 t2, .int .i64 t3, .int .i64 t4, .int .i64 t5, .int .i64 t6, .int .i64 t7, .int .i64 t8, .int .i64 t9] 29) _ rfl))
              have HB1 := hid (show Below w.heap.size w w1 from ((Below.refl _ _).alloc (Nat.le_refl _) _).trans (hb1.mono (by simp)))
              have HB := HB1
              clear hb1
              have q8 : w1.cell? ⟨w.heap.size, 8, none⟩ = some (.int .i64 m0) := (cell_row (j := 8) K1.out).trans rfl
              have q9 : w1.cell? ⟨w.heap.size, 9, none⟩ = some (.int .i64 m1) := (cell_row (j := 9) K1.out).trans rfl
              have q10 : w1.cell? ⟨w.heap.size, 10, none⟩ = some (.int .i64 m2) := (cell_row (j := 10) K1.out).trans rfl
              have q11 : w1.cell? ⟨w.heap.size, 11, none⟩ = some (.int .i64 m3) := (cell_row (j := 11) K1.out).trans rfl
              rw [H5.out]
              go_wp2_with fail
              refine (rRules_any _ _ _ _ _).mono ?_
              rintro r w2 ⟨rfl, hb2⟩
              have K2 := hid (heap_still hb2 K1.out)
              have HB2 := hid (show Below w.heap.size w w2 from HB1.out.trans (hb2.mono HB1.out.size))
              have HB := HB2
              clear hb2 q8 q9 q10 q11
              have q12 : w2.cell? ⟨w.heap.size, 12, none⟩ = some (.int .i64 t0) := (cell_row (j := 12) K2.out).trans rfl
              have q13 : w2.cell? ⟨w.heap.size, 13, none⟩ = some (.int .i64 t1) := (cell_row (j := 13) K2.out).trans rfl
              have q14 : w2.cell? ⟨w.heap.size, 14, none⟩ = some (.int .i64 t2) := (cell_row (j := 14) K2.out).trans rfl
              have q15 : w2.cell? ⟨w.heap.size, 15, none⟩ = some (.int .i64 t3) := (cell_row (j := 15) K2.out).trans rfl
              have q16 : w2.cell? ⟨w.heap.size, 16, none⟩ = some (.int .i64 t4) := (cell_row (j := 16) K2.out).trans rfl
              have q17 : w2.cell? ⟨w.heap.size, 17, none⟩ = some (.int .i64 t5) := (cell_row (j := 17) K2.out).trans rfl
              have q18 : w2.cell? ⟨w.heap.size, 18, none⟩ = some (.int .i64 t6) := (cell_row (j := 18) K2.out).trans rfl
              have q19 : w2.cell? ⟨w.heap.size, 19, none⟩ = some (.int .i64 t7) := (cell_row (j := 19) K2.out).trans rfl
              have q20 : w2.cell? ⟨w.heap.size, 20, none⟩ = some (.int .i64 t8) := (cell_row (j := 20) K2.out).trans rfl
              have q21 : w2.cell? ⟨w.heap.size, 21, none⟩ = some (.int .i64 t9) := (cell_row (j := 21) K2.out).trans rfl
              rw [H6.out]
              go_wp2_with fail
              refine (rTer_any _ _ _ _ _ _ _ _ _ _ _).mono ?_
              rintro r w3 ⟨rfl, hb3⟩
              have HB := hid (show Below w.heap.size w w3 from HB2.out.trans (hb3.mono HB2.out.size))
              clear hb3
              go_wp2_with fail
              go_ret
              refine ⟨by rw [HS.out]; rfl, ?_⟩
              (try have hB0 := HB.out)
              (repeat' (first | (with_reducible exact Below.refl _ _) | (with_reducible assumption) | (with_reducible refine Below.alloc ?_ ?_ _) | (with_reducible refine Below.drew ?_) | (with_reducible refine below_drewN ?_ _) | (with_reducible refine Below.setCell ?_ ?_ _) | (with_reducible refine below_setRow ?_ ?_ _) | go_size))
            · have HS := hid (show cfgB a0 a1 a2 a3 d0 d1 d2 d3 m0 m1 m2 m3 t0 t1 t2 t3 t4 t5 t6 t7 t8 t9 = false by simp [cfgB, h1, h2, h3, h4, h5, h6])
              have H1 := hid h1
              have H2 := hid h2
              have H3 := hid h3
              have H4 := hid h4
              have H5 := hid h5
              have H6 := hid (Bool.eq_false_iff.2 h6)
              clear h1 h2 h3 h4 h5 h6
              have D4 := H4.out
              go_enter Tryz.func6, Tryz.ntmps6
              go_wp2_with fail
              refine (rfrom_any _ _ _ _).mono ?_
              rintro r w1 ⟨rfl, rfl⟩
              rw [H1.out]
              go_wp2_with fail
              refine (rfrom_any _ _ _ _).mono ?_
              rintro r w1 ⟨rfl, rfl⟩
              rw [H2.out]
              go_wp2_with fail
              refine (rfrom_any _ _ _ _).mono ?_
              rintro r w1 ⟨rfl, rfl⟩
              rw [H3.out]
              go_wp2_with fail
              refine (rDet_any _ _ _ _ _).mono ?_
              rintro r w1 ⟨rfl, hb1⟩
              have K1 := hid (heap_still hb1 (heap_alloc_at w (.cells #[.int .i64 a0, .int .i64 a1, .int .i64 a2, .int .i64 a3, .int .i64 d0, .int .i64 d1, .int .i64 d2, .int .i64 d3, .int .i64 m0, .int .i64 m1, .int .i64 m2, .int .i64 m3, .int .i64 t0, .int .i64 t1, .int .i64 t2, .int .i64 t3, .int .i64 t4, .int .i64 t5, .int .i64 t6, .int .i64 t7, .int .i64 t8, .int .i64 t9] 29) _ rfl))
              have HB1 := hid (show Below w.heap.size w w1 from ((Below.refl _ _).alloc (Nat.le_refl _) _).trans (hb1.mono (by simp)))
              have HB := HB1
              clear hb1
              have q8 : w1.cell? ⟨w.heap.size, 8, none⟩ = some (.int .i64 m0) := (cell_row (j := 8) K1.out).trans rfl
              have q9 : w1.cell? ⟨w.heap.size, 9, none⟩ = some (.int .i64 m1) := (cell_row (j := 9) K1.out).trans rfl
              have q10 : w1.cell? ⟨w.heap.size, 10, none⟩ = some (.int .i64 m2) := (cell_row (j := 10) K1.out).trans rfl
              have q11 : w1.cell? ⟨w.heap.size, 11, none⟩ = some (.int .i64 m3) := (cell_row (j := 11) K1.out).trans rfl
              rw [H5.out]
              go_wp2_with fail
              refine (rRules_any _ _ _ _ _).mono ?_
              rintro r w2 ⟨rfl, hb2⟩
              have K2 := hid (heap_still hb2 K1.out)
              have HB2 := hid (show Below w.heap.size w w2 from HB1.out.trans (hb2.mono HB1.out.size))
              have HB := HB2
              clear hb2 q8 q9 q10 q11
              have q12 : w2.cell? ⟨w.heap.size, 12, none⟩ = some (.int .i64 t0) := (cell_row (j := 12) K2.out).trans rfl
              have q13 : w2.cell? ⟨w.heap.size, 13, none⟩ = some (.int .i64 t1) := (cell_row (j := 13) K2.out).trans rfl
              have q14 : w2.cell? ⟨w.heap.size, 14, none⟩ = some (.int .i64 t2) := (cell_row (j := 14) K2.out).trans rfl
              have q15 : w2.cell? ⟨w.heap.size, 15, none⟩ = some (.int .i64 t3) := (cell_row (j := 15) K2.out).trans rfl
              have q16 : w2.cell? ⟨w.heap.size, 16, none⟩ = some (.int .i64 t4) := (cell_row (j := 16) K2.out).trans rfl
              have q17 : w2.cell? ⟨w.heap.size, 17, none⟩ = some (.int .i64 t5) := (cell_row (j := 17) K2.out).trans rfl
              have q18 : w2.cell? ⟨w.heap.size, 18, none⟩ = some (.int .i64 t6) := (cell_row (j := 18) K2.out).trans rfl
              have q19 : w2.cell? ⟨w.heap.size, 19, none⟩ = some (.int .i64 t7) := (cell_row (j := 19) K2.out).trans rfl
              have q20 : w2.cell? ⟨w.heap.size, 20, none⟩ = some (.int .i64 t8) := (cell_row (j := 20) K2.out).trans rfl
              have q21 : w2.cell? ⟨w.heap.size, 21, none⟩ = some (.int .i64 t9) := (cell_row (j := 21) K2.out).trans rfl
              rw [H6.out]
              go_wp2_with fail
              go_ret
              refine ⟨by rw [HS.out]; rfl, ?_⟩
              (try have hB0 := HB.out)
              (repeat' (first | (with_reducible exact Below.refl _ _) | (with_reducible assumption) | (with_reducible refine Below.alloc ?_ ?_ _) | (with_reducible refine Below.drew ?_) | (with_reducible refine below_drewN ?_ _) | (with_reducible refine Below.setCell ?_ ?_ _) | (with_reducible refine below_setRow ?_ ?_ _) | go_size))
          · have HS := hid (show cfgB a0 a1 a2 a3 d0 d1 d2 d3 m0 m1 m2 m3 t0 t1 t2 t3 t4 t5 t6 t7 t8 t9 = false by simp [cfgB, h1, h2, h3, h4, h5])
            have H1 := hid h1
            have H2 := hid h2
            have H3 := hid h3
            have H4 := hid h4
            have H5 := hid (Bool.eq_false_iff.2 h5)
            clear h1 h2 h3 h4 h5
            have D4 := H4.out
            go_enter Tryz.func6, Tryz.ntmps6
            go_wp2_with fail
            refine (rfrom_any _ _ _ _).mono ?_
            rintro r w1 ⟨rfl, rfl⟩
            rw [H1.out]
            go_wp2_with fail
            refine (rfrom_any _ _ _ _).mono ?_
            rintro r w1 ⟨rfl, rfl⟩
            rw [H2.out]
            go_wp2_with fail
            refine (rfrom_any _ _ _ _).mono ?_
            rintro r w1 ⟨rfl, rfl⟩
            rw [H3.out]
            go_wp2_with fail
            refine (rDet_any _ _ _ _ _).mono ?_
            rintro r w1 ⟨rfl, hb1⟩
            have K1 := hid (heap_still hb1 (heap_alloc_at w (.cells #[.int .i64 a0, .int .i64 a1, .int .i64 a2, .int .i64 a3, .int .i64 d0, .int .i64 d1, .int .i64 d2, .int .i64 d3, .int .i64 m0, .int .i64 m1, .int .i64 m2, .int .i64 m3, .int .i64 t0, .int .i64 t1, .int .i64 t2, .int .i64 t3, .int .i64 t4, .int .i64 t5, .int .i64 t6, .int .i64 t7, .int .i64 t8, .int .i64 t9] 29) _ rfl))
            have HB1 := hid (show Below w.heap.size w w1 from ((Below.refl _ _).alloc (Nat.le_refl _) _).trans (hb1.mono (by simp)))
            have HB := HB1
            clear hb1
            have q8 : w1.cell? ⟨w.heap.size, 8, none⟩ = some (.int .i64 m0) := (cell_row (j := 8) K1.out).trans rfl
            have q9 : w1.cell? ⟨w.heap.size, 9, none⟩ = some (.int .i64 m1) := (cell_row (j := 9) K1.out).trans rfl
            have q10 : w1.cell? ⟨w.heap.size, 10, none⟩ = some (.int .i64 m2) := (cell_row (j := 10) K1.out).trans rfl
            have q11 : w1.cell? ⟨w.heap.size, 11, none⟩ = some (.int .i64 m3) := (cell_row (j := 11) K1.out).trans rfl
            rw [H5.out]
            go_wp2_with fail
            go_ret
            refine ⟨by rw [HS.out]; rfl, ?_⟩
            (try have hB0 := HB.out)
            (repeat' (first | (with_reducible exact Below.refl _ _) | (with_reducible assumption) | (with_reducible refine Below.alloc ?_ ?_ _) | (with_reducible refine Below.drew ?_) | (with_reducible refine below_drewN ?_ _) | (with_reducible refine Below.setCell ?_ ?_ _) | (with_reducible refine below_setRow ?_ ?_ _) | go_size))
        · have HS := hid (show cfgB a0 a1 a2 a3 d0 d1 d2 d3 m0 m1 m2 m3 t0 t1 t2 t3 t4 t5 t6 t7 t8 t9 = false by simp [cfgB, h1, h2, h3, h4])
          have H1 := hid h1
          have H2 := hid h2
          have H3 := hid h3
          have H4 := hid (Bool.eq_false_iff.2 h4)
          clear h1 h2 h3 h4
          have D4 := H4.out
          go_enter Tryz.func6, Tryz.ntmps6
          go_wp2_with fail
          refine (rfrom_any _ _ _ _).mono ?_
          rintro r w1 ⟨rfl, rfl⟩
          rw [H1.out]
          go_wp2_with fail
          refine (rfrom_any _ _ _ _).mono ?_
          rintro r w1 ⟨rfl, rfl⟩
          rw [H2.out]
          go_wp2_with fail
          refine (rfrom_any _ _ _ _).mono ?_
          rintro r w1 ⟨rfl, rfl⟩
          rw [H3.out]
          go_wp2_with fail
          go_ret
          refine ⟨by rw [HS.out]; rfl, ?_⟩
          (try have hB0 := HB.out)
          (repeat' (first | (with_reducible exact Below.refl _ _) | (with_reducible assumption) | (with_reducible refine Below.alloc ?_ ?_ _) | (with_reducible refine Below.drew ?_) | (with_reducible refine below_drewN ?_ _) | (with_reducible refine Below.setCell ?_ ?_ _) | (with_reducible refine below_setRow ?_ ?_ _) | go_size))
      · have HS := hid (show cfgB a0 a1 a2 a3 d0 d1 d2 d3 m0 m1 m2 m3 t0 t1 t2 t3 t4 t5 t6 t7 t8 t9 = false by simp [cfgB, h1, h2, h3])
        have H1 := hid h1
        have H2 := hid h2
        have H3 := hid (Bool.eq_false_iff.2 h3)
        clear h1 h2 h3
        go_enter Tryz.func6, Tryz.ntmps6
        go_wp2_with fail
        refine (rfrom_any _ _ _ _).mono ?_
        rintro r w1 ⟨rfl, rfl⟩
        rw [H1.out]
        go_wp2_with fail
        refine (rfrom_any _ _ _ _).mono ?_
        rintro r w1 ⟨rfl, rfl⟩
        rw [H2.out]
        go_wp2_with fail
        refine (rfrom_any _ _ _ _).mono ?_
        rintro r w1 ⟨rfl, rfl⟩
        rw [H3.out]
        go_wp2_with fail
        go_ret
        refine ⟨by rw [HS.out]; rfl, ?_⟩
        (try have hB0 := HB.out)
        (repeat' (first | (with_reducible exact Below.refl _ _) | (with_reducible assumption) | (with_reducible refine Below.alloc ?_ ?_ _) | (with_reducible refine Below.drew ?_) | (with_reducible refine below_drewN ?_ _) | (with_reducible refine Below.setCell ?_ ?_ _) | (with_reducible refine below_setRow ?_ ?_ _) | go_size))
    · have HS := hid (show cfgB a0 a1 a2 a3 d0 d1 d2 d3 m0 m1 m2 m3 t0 t1 t2 t3 t4 t5 t6 t7 t8 t9 = false by simp [cfgB, h1, h2])
      have H1 := hid h1
      have H2 := hid (Bool.eq_false_iff.2 h2)
      clear h1 h2
      go_enter Tryz.func6, Tryz.ntmps6
      go_wp2_with fail
      refine (rfrom_any _ _ _ _).mono ?_
      rintro r w1 ⟨rfl, rfl⟩
      rw [H1.out]
      go_wp2_with fail
      refine (rfrom_any _ _ _ _).mono ?_
      rintro r w1 ⟨rfl, rfl⟩
      rw [H2.out]
      go_wp2_with fail
      go_ret
      refine ⟨by rw [HS.out]; rfl, ?_⟩
      (try have hB0 := HB.out)
      (repeat' (first | (with_reducible exact Below.refl _ _) | (with_reducible assumption) | (with_reducible refine Below.alloc ?_ ?_ _) | (with_reducible refine Below.drew ?_) | (with_reducible refine below_drewN ?_ _) | (with_reducible refine Below.setCell ?_ ?_ _) | (with_reducible refine below_setRow ?_ ?_ _) | go_size))
  · have HS := hid (show cfgB a0 a1 a2 a3 d0 d1 d2 d3 m0 m1 m2 m3 t0 t1 t2 t3 t4 t5 t6 t7 t8 t9 = false by simp [cfgB, h1])
    have H1 := hid (Bool.eq_false_iff.2 h1)
    clear h1
    go_enter Tryz.func6, Tryz.ntmps6
    go_wp2_with fail
    refine (rfrom_any _ _ _ _).mono ?_
    rintro r w1 ⟨rfl, rfl⟩
    rw [H1.out]
    go_wp2_with fail
    go_ret
    refine ⟨by rw [HS.out]; rfl, ?_⟩
    (try have hB0 := HB.out)
    (repeat' (first | (with_reducible exact Below.refl _ _) | (with_reducible assumption) | (with_reducible refine Below.alloc ?_ ?_ _) | (with_reducible refine Below.drew ?_) | (with_reducible refine below_drewN ?_ _) | (with_reducible refine Below.setCell ?_ ?_ _) | (with_reducible refine below_setRow ?_ ?_ _) | go_size))
end Go.Proofs.YtpfighhhemnhaaaGreat

/- ValLaw -/
namespace Go.Proofs.YtpfighhhemnhaaaGreat
open Go.ChangeShapes Go.WideShapes Go.ChangeAt Go.RowKit Go.Maps Go.Sort

/-- the load of a whole block in a quiet walk -/
theorem quiet_load {P : Program} {o : Oper} {a : Act} {C : World → Prop} {K : Act → Prop} (ty : TypeId) (x : Operand) (ho : o.op = .load ty x) (g : Nat) (hx : a.eval x = .pointer (some ⟨g, 0, none⟩)) {t : TypeId} {cs : Array Value} {fr : Nat × Nat} {d : TypeDesc} (hg : ∀ w, C w → w.heap[g]? = some (.cells cs t fr))
    (hu : P.underlying ty = some d) (hd : (match d with | .struct _ | .array _ _ => true | _ => false) = true) (hi : (P.info? ty).map (·.size) = some cs.size) (hk : K (a.put o.dst (.agg cs))) : o.quiet P a C K :=
  ⟨_, fun w hw => by
    unfold Oper.quietAt execOp
    simp only [ho, hx, Instr.loadAt, Instr.sureAddr, Sem.run_bind, Sem.run_pure, Result.andThen_ok, run_loadVar_row w g t ty cs fr d (hg w hw) hu hd hi]
    exact ⟨rfl, rfl⟩, hk⟩
theorem rows_xy {w : World} {b off n : Nat} (h : rows w b off 2 n (List.replicate 2 (some .i64))) : ∃ S : List Xy, S.length = n ∧ RowsAt w b off 2 (S.map Xy.row) := by
  obtain ⟨S, h1, h2⟩ := list_of (R := fun i (p : Xy) => ∀ j, j < 2 → w.cell? ⟨b, off + i * 2 + j, none⟩ = p.row[j]?) n (fun i hi => by
    obtain ⟨cs, hf, hc⟩ := h i hi
    obtain ⟨zs, hl, rfl⟩ := lawCells hf
    match zs, hl with
    | [z0, z1], _ => exact ⟨⟨z0, z1⟩, fun j hj => by
        match j, hj with
        | 0, _ | 1, _ => exact hc _ _ rfl⟩)
  refine ⟨S, h1, fun i r hi j hj => ?_⟩
  rw [List.getElem?_map] at hi
  obtain ⟨p, hp, rfl⟩ := Option.map_eq_some_iff.1 hi
  exact h2 i p hp j hj
theorem rows_is {w : World} {b off n : Nat} (h : rows w b off 1 n (List.replicate 1 (some .i64))) : ∃ l : List Int, l.length = n ∧ ∀ (i : Nat) (z : Int), l[i]? = some z → w.cell? ⟨b, off + i, none⟩ = some (.int .i64 z) := by
  obtain ⟨S, h1, h2⟩ := list_of (R := fun i (z : Int) => w.cell? ⟨b, off + i, none⟩ = some (.int .i64 z)) n (fun i hi => by
    obtain ⟨cs, hf, hc⟩ := h i hi
    obtain ⟨z, vs, rfl, _, h3⟩ := fits_int (show fitsW (some .i64 :: []) cs from hf)
    have := hc 0 _ rfl
    rw [Nat.mul_one] at this
    exact ⟨z, this⟩)
  exact ⟨S, h1, h2⟩
theorem flat3s : flatOf Tryz.prog 10 3 = some (List.replicate 1 (some .i64)) := by kernel_rfl
theorem size3s : (Tryz.prog.info? 3).map (·.size) = some (List.replicate 1 (some IntKind.i64)).length := by kernel_rfl
theorem flat137s : flatOf Tryz.prog 10 49 = some (List.replicate 2 (some .i64)) := by kernel_rfl
theorem size137s : (Tryz.prog.info? 49).map (·.size) = some (List.replicate 2 (some IntKind.i64)).length := by kernel_rfl
theorem int_cells : ∀ {n : Nat} {cs : List Value}, fitsW (List.replicate n (some .i64)) cs → ∃ zs : List Int, zs.length = n ∧ cs = zs.map (Value.int .i64)
  | 0, cs, h => ⟨[], rfl, fits_nil h⟩
  | n + 1, cs, h => by
    obtain ⟨z, vs, rfl, _, h2⟩ := fits_int (show fitsW (some .i64 :: List.replicate n (some .i64)) cs from h)
    obtain ⟨zs, h3, h4⟩ := int_cells h2
    exact ⟨z :: zs, by simp [h3], by simp [h4]⟩
section
variable {H : Type} {enc : TypeId × Value → H} {w : World} {base : Nat} {spare : Nat → Bool} {held : Bool}
theorem open_agg64 {P : Program} {w : World} {r : Reach} {b0 : Nat} {t : TypeId} {n : Nat} {v : Value} (hs : P.cellsOf t = n) (hagg : (match P.underlying t with | some (.struct _) => true | some (.array _ _) => true | _ => false) = true) (hv : Value.okWide P w r b0 t v) :
    ∃ cs : List Value, v = .agg cs.toArray ∧ cs.length = n := by
  obtain ⟨cs, rfl, hsz⟩ : ∃ cs, v = .agg cs ∧ cs.size = P.cellsOf t := by
    unfold Value.okWide at hv
    split at hv
    · obtain ⟨cs, rfl, h, _⟩ := hv; exact ⟨cs, rfl, h⟩
    · obtain ⟨cs, rfl, h, _⟩ := hv; exact ⟨cs, rfl, h⟩
    · rename_i h1 h2
      split at hagg
      · rename_i fs he; exact absurd he (h1 fs)
      · rename_i n e he; exact absurd he (h2 n e)
      · simp at hagg
  exact ⟨cs.toList, by simp, by simpa [hs] using hsz⟩
theorem xys_cell {fuel : Nat} {v : Value} {x : DataW H × List MemPlace} (hx : DataW.trod enc Tryz.prog w base spare held fuel 42 [v] = some x) : ∃ R : List Xy, XysV w v R ∧ R.length ≤ maxLen := by
  obtain ⟨a, len, cap, rfl, hl, hn, hr⟩ := open_cell_rows Tryz.underlying42 flat137s size137s (by decide) hx
  by_cases h0 : len = 0
  · subst h0
    exact ⟨[], ⟨a, cap, rfl, Or.inl rfl⟩, by simp⟩
  · obtain ⟨b, off, rfl, hb, hrows⟩ := hr (by omega)
    obtain ⟨S, h1, h2⟩ := rows_xy hrows
    subst h1
    exact ⟨S, ⟨_, cap, rfl, Or.inr ⟨b, off, rfl, hb, h2⟩⟩, hl⟩
theorem ints_cells {fuel : Nat} {v : Value} {x : DataW H × List MemPlace} (hx : DataW.trod enc Tryz.prog w base spare held fuel 45 [v] = some x) : ∃ l : List Int, IntsV w v l ∧ l.length ≤ maxLen := by
  obtain ⟨a, len, cap, rfl, hl, hn, hr⟩ := open_cell_rows Tryz.underlying45 flat3s size3s (by decide) hx
  by_cases h0 : len = 0
  · subst h0
    exact ⟨[], ⟨a, cap, rfl, Or.inl rfl⟩, by simp⟩
  · obtain ⟨b, off, rfl, hb, hrows⟩ := hr (by omega)
    obtain ⟨S, h1, h2⟩ := rows_is hrows
    subst h1
    exact ⟨S, ⟨_, cap, rfl, Or.inr ⟨b, off, rfl, hb, h2⟩⟩, hl⟩
end
end Go.Proofs.YtpfighhhemnhaaaGreat

