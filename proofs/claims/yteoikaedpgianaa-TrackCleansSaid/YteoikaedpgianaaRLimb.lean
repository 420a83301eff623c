/- The natural numbers of the reference: slices of limbs, and its functions that strike zeros, compare, and make a number. The reference's numbers: made from a machine's number. The reference's numbers: sums and differences of natural numbers. The reference's numbers: products of natural numbers, and quotients by one limb. The reference's numbers: quotients by one limb. -/
import Derived.Test.YteoikaedpgianaaRows
import Derived.Test.YteoikaedpgianaaRAid
import Derived.OwnWalk
import Derived.LoopN
import Derived.Test.YteoikaedpgianaaRReg
import Derived.Test.YteoikaedpgianaaRBeam
import Derived.Test.YteoikaedpgianaaRLink
import Derived.Laws.OwnMore
import Derived.Lib.QuietBelow
namespace Go.Proofs.Yteoikaedpgianaa
open Go.RowKit Limb

def i64s (l : List Nat) : List Value := l.map fun (x : Nat) => Value.int .i64 (x : Int)
theorem i64s_one (l : List Nat) : ∀ u ∈ i64s l, u.oneCell' = true := by
  intro u hu
  simp only [i64s, List.mem_map] at hu
  obtain ⟨x, _, rfl⟩ := hu
  rfl
theorem i64s_len (l : List Nat) : (i64s l).length = l.length := by simp [i64s]
theorem i64s_append (a b : List Nat) : i64s (a ++ b) = i64s a ++ i64s b := by simp [i64s]
theorem i64s_take (l : List Nat) (n : Nat) : (i64s l).take n = i64s (l.take n) := by simp [i64s, List.map_take]
/-- a number in memory -/
def NatAt (W : World) (v : Value) (m : Nat) : Prop := W.ownsRow 0 3 1 v (natL m).length (i64s (natL m))
theorem info3 : (Try.prog.info? 3).map (fun i => (i.zero, i.size, i.bytes)) = some (some (.int .i64 0), 1, 8) := by kernel_rfl

theorem own_grow {W W' : World} {B s n : Nat} {e : TypeId} {v : Value} {xs : List Value} (hB : Below W.heap.size W W') (h : W.ownsRow B e s v n xs) : W'.ownsRow B e s v n xs := by
  obtain ⟨h1, h2⟩ := h
  refine ⟨h1, ?_⟩
  rcases h2 with h2 | ⟨g, cap, cur, hv, hg, hr, h3⟩
  · exact Or.inl h2
  · exact Or.inr ⟨g, cap, cur, hv, hg, (hB.block g (Array.getElem?_eq_some_iff.1 hr).1).trans hr, h3⟩
theorem NatAt.grow {W W' : World} {v : Value} {m : Nat} (h : NatAt W v m) (hB : Below W.heap.size W W') : NatAt W' v m := own_grow hB h
/-- the shape of a slice -/
def Shp (W : World) (a : Option Addr) (n cap : Nat) : Prop := (a = none ∧ n = 0 ∧ cap = 0) ∨ (∃ g, a = some ⟨g, 0, none⟩ ∧ g < W.heap.size ∧ n ≤ cap ∧ cap ≤ maxLen)
theorem Shp.small {W : World} {a : Option Addr} {n cap : Nat} (h : Shp W a n cap) : n ≤ 9223372036854775807 := by
  rcases h with ⟨_, rfl, _⟩ | ⟨g, _, _, h1, h2⟩
  · omega
  · unfold maxLen at h2; omega
/-- its reads, in any grown world -/
def Rds (W : World) (a : Option Addr) (n : Nat) (f : Nat → Nat) : Prop := ∀ W', Below W.heap.size W W' → ∀ i, i < n → ∃ g, a = some ⟨g, 0, none⟩ ∧ g < W.heap.size ∧ W'.cell? ⟨g, i, none⟩ = some (.int .i64 ((f i : Nat) : Int))
theorem own_open {W : World} {B n : Nat} {v : Value} {l : List Nat} (h : W.ownsRow B 3 1 v n (i64s l)) :
    ∃ a cap, v = .slice a n cap ∧ l.length = n ∧ Shp W a n cap ∧ Rds W a n (fun i => l.getD i 0) := by
  obtain ⟨h1, h2⟩ := h
  rw [i64s_len, Nat.mul_one] at h1
  rcases h2 with ⟨rfl, rfl⟩ | ⟨g, cap, cur, rfl, hg, hr, hn, hc, hs, ht⟩
  · exact ⟨none, 0, rfl, h1, Or.inl ⟨rfl, rfl, rfl⟩, fun W' hB i hi => by omega⟩
  · have hlt := (Array.getElem?_eq_some_iff.1 hr).1
    refine ⟨some ⟨g, 0, none⟩, cap, rfl, h1, Or.inr ⟨g, rfl, hlt, hn, hc⟩, fun W' hB i hi => ⟨g, rfl, hlt, ?_⟩⟩
    have h3 : cur[i]? = some (.int .i64 ((l.getD i 0 : Nat) : Int)) := by
      have h4 := congrArg (fun (x : List Value) => x[i]?) ht
      simp only [Nat.mul_one, List.getElem?_take, if_pos hi, Array.getElem?_toList] at h4
      rw [h4]
      simp only [i64s, List.getElem?_map]
      rw [List.getD_eq_getElem?_getD, List.getElem?_eq_getElem (by omega)]
      rfl
    simp only [World.cell?, (hB.block g hlt).trans hr]
    simpa using h3
theorem NatAt.open {W : World} {v : Value} {m : Nat} (h : NatAt W v m) :
    ∃ a cap, v = .slice a (natL m).length cap ∧ Shp W a (natL m).length cap ∧ Rds W a (natL m).length (fun i => m / 65536 ^ i % 65536) := by
  obtain ⟨a, cap, hv, _, hs, hr⟩ := own_open h
  refine ⟨a, cap, hv, hs, fun W' hB i hi => ?_⟩
  obtain ⟨g, h1, h2, h3⟩ := hr W' hB i hi
  exact ⟨g, h1, h2, h3.trans (by show some (Value.int .i64 (((natL m).getD i 0 : Nat) : Int)) = _; rw [natL_getD])⟩
/-- a shorter slice of it -/
theorem own_short {W : World} {B n k : Nat} {a : Option Addr} {cap : Nat} {l : List Nat} (h : W.ownsRow B 3 1 (.slice a n cap) n (i64s l)) (hk : k ≤ n) : W.ownsRow B 3 1 (.slice a k cap) k (i64s (l.take k)) := by
  obtain ⟨h1, h2⟩ := h
  rw [i64s_len, Nat.mul_one] at h1
  refine ⟨by rw [i64s_len, List.length_take]; omega, ?_⟩
  rcases h2 with ⟨hv, rfl⟩ | ⟨g, cap', cur, hv, hg, hr, hn, hc, hs, ht⟩
  · obtain rfl : k = 0 := by omega
    cases hv
    exact Or.inl ⟨rfl, rfl⟩
  · cases hv
    refine Or.inr ⟨g, cap, cur, rfl, hg, hr, by omega, hc, hs, ?_⟩
    rw [← i64s_take, ← ht, List.take_take, Nat.mul_one, Nat.mul_one, Nat.min_eq_left hk]

set_option maxRecDepth 100000 in
theorem trim_any (B n : Nat) (v : Value) (l : List Nat) (w : World) (h : w.ownsRow B 3 1 v n (i64s l)) (hl : ∀ x ∈ l, x < 65536) :
    Calls Try.prog 133 #[v] w fun r w' => (∃ v', r = .returned v' ∧ w.ownsRow B 3 1 v' (natL (val l)).length (i64s (natL (val l)))) ∧ w = w' := by
  obtain ⟨a, cap, rfl, hn, hs, hr⟩ := own_open h
  have HO := hid h
  have HL := hid hl
  have HR := hid (hr w (Below.refl _ _))
  have HN := hid hn
  have HE : ∀ k : Nat, k ≤ n → (∀ i, k ≤ i → i < n → l.getD i 0 = 0) → (k = 0 ∨ l.getD (k - 1) 0 ≠ 0) → w.ownsRow B 3 1 (.slice a k cap) (natL (val l)).length (i64s (natL (val l))) := by
    intro k hk hz ht
    have := take_trim hl (n := k) (by omega) (by rw [hn]; exact hz) ht
    have h2 := own_short h hk
    rw [this] at h2
    have h3 := h2.1
    rw [i64s_len, Nat.mul_one] at h3
    rw [h3]
    exact h2
  clear h hl hr hn
  go_enter Try.func133, Try.ntmps133
  go_wp2_with fail
  go_loop [3] (fun q => ∃ k : Nat, k ≤ n ∧ q = .int .i64 k ∧ ∀ i, k ≤ i → i < n → l.getD i 0 = 0) (fun q => (intOf q).toNat)
  case atStart => exact ⟨n, Nat.le_refl _, rfl, fun i h1 h2 => by omega⟩
  case round =>
    obtain ⟨k, hk, rfl, hz⟩ := hrel
    rcases Nat.eq_zero_or_pos k with rfl | hp
    · have HX := hid (HE 0 (Nat.zero_le _) hz (Or.inl rfl))
      clear HE hz
      rcases hs with ⟨rfl, rfl, rfl⟩ | ⟨g, rfl, hg, hnc, hcm⟩
      · go_wp2_with fail
        go_ret
        exact ⟨⟨_, rfl, HX.out⟩, rfl⟩
      · go_wp2_with fail
        go_ret
        exact ⟨⟨_, rfl, HX.out⟩, rfl⟩
    · obtain ⟨j, rfl⟩ : ∃ j, k = j + 1 := ⟨k - 1, by omega⟩
      obtain ⟨g, rfl, hg, hc⟩ := HR.out j (by omega)
      have hnl : n ≤ 9223372036854775807 := hs.small
      by_cases hx : l.getD j 0 = 0
      · have HX := hid hx
        rw [hx] at hc
        have HZ := hid hz
        clear HE hx hz hs
        go_wp2_with fail
        go_round
        case rel => exact ⟨j, by omega, by go_num, fun i h1 h2 => by rcases Nat.eq_or_lt_of_le h1 with rfl | h3; exact HX.out; exact HZ.out i h3 h2⟩
        case measure => (try simp [intOf]); (try omega)
      · have HX := hid (HE (j + 1) hk hz (Or.inr (by simpa using hx)))
        generalize l.getD j 0 = x at *
        clear HE hz
        rcases hs with ⟨h, _⟩ | ⟨g', h, _, hnc, hcm⟩
        · cases h
        · cases h
          go_wp2_with fail
          go_ret
          exact ⟨⟨_, rfl, HX.out⟩, rfl⟩

theorem cmp_len {m n : Nat} (h : (natL m).length ≠ (natL n).length) : ((natL m).length < (natL n).length ∧ m < n) ∨ ((natL n).length < (natL m).length ∧ n < m) := by
  rcases Nat.lt_or_gt_of_ne h with h | h
  · exact Or.inl ⟨h, lt_of_length h⟩
  · exact Or.inr ⟨h, lt_of_length h⟩
/-- what the comparison returns -/
def cmpV (m n : Nat) : Int := if m < n then -1 else if n < m then 1 else 0

set_option maxRecDepth 100000 in
theorem compare_any (m n : Nat) (va vb : Value) (w : World) (ha : NatAt w va m) (hb : NatAt w vb n) :
    Calls Try.prog 131 #[va, vb] w fun r w' => r = .returned (.int .i64 (cmpV m n)) ∧ Below w.heap.size w w' := by
  obtain ⟨a, ca, rfl, hsa, hra⟩ := ha.open
  obtain ⟨b, cb, rfl, hsb, hrb⟩ := hb.open
  have HA := hid hra
  have HB := hid hrb
  have hla := hsa.small
  have hlb := hsb.small
  have HLEN := hid (@cmp_len m n)
  clear ha hb hra hrb
  by_cases hl : (natL m).length = (natL n).length
  · rw [← hl] at hlb HB ⊢
    have HL := hid hl
    clear hl HLEN
    have HS := hid (show m / 65536 ^ (natL m).length = n / 65536 ^ (natL m).length by rw [natL_digit_high m _ (Nat.le_refl _), natL_digit_high n _ (by rw [HL.out]; exact Nat.le_refl _)])
    generalize (natL m).length = p at *
    go_enter Try.func131, Try.ntmps131
    go_wp2_with fail
    go_loopw [5] (fun q wr => ∃ k : Nat, k ≤ p ∧ q = .int .i64 ((k : Int) - 1) ∧ m / 65536 ^ k = n / 65536 ^ k ∧ Below w.heap.size w wr) (fun q _ => (intOf q + 1).toNat)
    case atStart => exact ⟨p, Nat.le_refl _, by go_num, HS.out, Below.refl _ _⟩
    case round =>
      obtain ⟨k, hk, rfl, he, hbw⟩ := hrel
      rcases Nat.eq_zero_or_pos k with rfl | hp
      · have HV := hid (show cmpV m n = 0 by simp at he; unfold cmpV; rw [if_neg (by omega), if_neg (by omega)])
        have HBW := hid hbw
        clear he hbw
        go_wp2_with fail
        go_ret
        exact ⟨by rw [HV.out]; rfl, HBW.out⟩
      · obtain ⟨j, rfl⟩ : ∃ j, k = j + 1 := ⟨k - 1, by omega⟩
        obtain ⟨g, rfl, hg, hca⟩ := HA.out wr hbw j (by omega)
        obtain ⟨g', rfl, hg', hcb⟩ := HB.out wr hbw j (by omega)
        have HBW := hid hbw
        have HT := hid (@cmp_top m n j he)
        have HT' := hid (@cmp_top n m j he.symm)
        have HN := hid (@cmp_next m n j he)
        simp only at hca hcb
        clear he hbw
        generalize m / 65536 ^ j % 65536 = x at *
        generalize n / 65536 ^ j % 65536 = y at *
        by_cases hxy : x = y
        · have HE := hid (HN.out hxy)
          subst hxy
          go_wp2_with fail
          go_quiet (fail)
          go_wp2_with fail
          go_roundw
          case rel => exact ⟨j, by omega, by go_num, HE.out, by have hB0 := HBW.out; (repeat' (first | (with_reducible exact Below.refl _ _) | (with_reducible assumption) | (with_reducible refine Below.alloc ?_ ?_ _) | (with_reducible refine Below.drew ?_) | (with_reducible refine below_drewN ?_ _) | (with_reducible refine Below.setCell ?_ ?_ _) | (with_reducible refine below_setRow ?_ ?_ _) | go_size))⟩
          case measure => (try simp [intOf]); (try omega)
        · rcases Nat.lt_or_gt_of_ne hxy with hlt | hlt
          · have HV := hid (show cmpV m n = -1 by unfold cmpV; rw [if_pos (HT.out hlt)])
            go_wp2_with fail
            go_quiet (fail)
            go_wp2_with fail
            go_quiet (fail)
            go_wp2_with fail
            go_ret
            exact ⟨by rw [HV.out]; rfl, by have hB0 := HBW.out; (repeat' (first | (with_reducible exact Below.refl _ _) | (with_reducible assumption) | (with_reducible refine Below.alloc ?_ ?_ _) | (with_reducible refine Below.drew ?_) | (with_reducible refine below_drewN ?_ _) | (with_reducible refine Below.setCell ?_ ?_ _) | (with_reducible refine below_setRow ?_ ?_ _) | go_size))⟩
          · have HV := hid (show cmpV m n = 1 by have := HT'.out hlt; unfold cmpV; rw [if_neg (by omega), if_pos this])
            go_wp2_with fail
            go_quiet (fail)
            go_wp2_with fail
            go_quiet (fail)
            go_wp2_with fail
            go_ret
            exact ⟨by rw [HV.out]; rfl, by have hB0 := HBW.out; (repeat' (first | (with_reducible exact Below.refl _ _) | (with_reducible assumption) | (with_reducible refine Below.alloc ?_ ?_ _) | (with_reducible refine Below.drew ?_) | (with_reducible refine below_drewN ?_ _) | (with_reducible refine Below.setCell ?_ ?_ _) | (with_reducible refine below_setRow ?_ ?_ _) | go_size))⟩
  · have hc := HLEN.out hl
    generalize (natL m).length = p at *
    generalize (natL n).length = q at *
    rcases hc with ⟨h1, h2⟩ | ⟨h1, h2⟩
    · have HV := hid (show cmpV m n = -1 by unfold cmpV; rw [if_pos h2])
      clear h2 HLEN
      go_enter Try.func131, Try.ntmps131
      go_wp2_with fail
      go_ret
      exact ⟨by rw [HV.out]; rfl, Below.refl _ _⟩
    · have HV := hid (show cmpV m n = 1 by unfold cmpV; rw [if_neg (by omega), if_pos h2])
      clear h2 HLEN
      go_enter Try.func131, Try.ntmps131
      go_wp2_with fail
      go_ret
      exact ⟨by rw [HV.out]; rfl, Below.refl _ _⟩
end Go.Proofs.Yteoikaedpgianaa
namespace Go.Proofs.Yteoikaedpgianaa
open Go.RowKit Limb

theorem i64_at {w : World} {x : Nat} {z : Int} (hz : z = x) : ∀ (j : Nat) (u : Value), (i64s [x])[j]? = some u → (w.alloc (.cells #[.int .i64 z] 3)).cell? ((⟨w.heap.size, 0, none⟩ : Addr).add j) = some u := by
  subst hz
  intro j u hj
  match j, hj with
  | 0, hj =>
    simp [i64s] at hj
    subst hj
    simp [Addr.add]
theorem grown_below3 {B : Nat} {w wr w' : World} {v : Value} {o : Obj} {e : TypeId} {s n : Nat} {xs : List Value} (hB : Below B w wr) (ho : wr.ownsRow B e s v n xs) (hg : (wr.alloc o).grownBy w' v.ownBlock) (hs : B ≤ wr.heap.size) : Below B w w' :=
  (hB.alloc hs o).grown hg (by simp; omega) (fun k hk => (ho.lt k hk).1)
theorem own_base3 {w : World} {B B' n : Nat} {v : Value} {xs : List Value} (h : w.ownsRow B 3 1 v n xs) (hB : B' ≤ B) : w.ownsRow B' 3 1 v n xs := by
  obtain ⟨h1, h2⟩ := h
  refine ⟨h1, ?_⟩
  rcases h2 with h2 | ⟨g, cap, cur, hv, hg, h3⟩
  · exact Or.inl h2
  · exact Or.inr ⟨g, cap, cur, hv, by omega, h3⟩


/-- a number in a row of one's own -/
def NatIn (B : Nat) (W : World) (v : Value) (m : Nat) : Prop := W.ownsRow B 3 1 v (natL m).length (i64s (natL m))
theorem NatIn.at {B m : Nat} {W : World} {v : Value} (h : NatIn B W v m) : NatAt W v m := own_base3 h (Nat.zero_le _)
theorem NatIn.grow {B m : Nat} {W W' : World} {v : Value} (h : NatIn B W v m) (hB : Below W.heap.size W W') : NatIn B W' v m := own_grow hB h
theorem NatIn.low {B B' m : Nat} {W : World} {v : Value} (h : NatIn B W v m) (hB : B' ≤ B) : NatIn B' W v m := own_base3 h hB
theorem own_set {w : World} {B n g : Nat} {v : Value} {xs : List Value} {cs : Array Value} (h : w.ownsRow B 3 1 v n xs) (hg : g < B) : (w.setRow g cs).ownsRow B 3 1 v n xs := by
  obtain ⟨h1, h2⟩ := h
  refine ⟨h1, ?_⟩
  rcases h2 with h2 | ⟨g', cap, cur, hv, hg', hr, h3⟩
  · exact Or.inl h2
  · refine Or.inr ⟨g', cap, cur, hv, hg', ?_, h3⟩
    show (w.heap.modify g _)[g']? = _
    rw [Array.getElem?_modify, if_neg (by omega)]
    exact hr
theorem size33 : (Try.prog.info? 33).map (·.size) = some 2 := by kernel_rfl
theorem natL4 {n : Nat} (h : n ≤ 9223372036854775808) : (natL n).length ≤ 4 := natL_length_le.2 (by omega)
set_option maxRecDepth 100000 in
theorem small_any (z : Int) (w : World) (hz : -9223372036854775808 ≤ z ∧ z ≤ 9223372036854775807) :
    Calls Try.prog 78 #[.int .i64 z] w fun r w' => (∃ v, r = .returned (.agg #[.bool (decide (z < 0)), v]) ∧ NatIn w.heap.size w' v z.natAbs) ∧ Below w.heap.size w w' := by
  obtain ⟨i0, hi, hz0, hz1, hz2⟩ := info_parts info3
  have HI := hid hi
  have HZ0 := hid hz0
  have HZ1 := hid hz1
  have HZ2 := hid hz2
  clear hi hz0 hz1 hz2
  by_cases hneg : z < 0
  · have hw1 : IntKind.u64.wrap z = z + 18446744073709551616 := by rw [IntKind.wrap_u64]; omega
    have hw2 : IntKind.u64.wrap (-(z + 18446744073709551616)) = ((z.natAbs : Nat) : Int) := by rw [IntKind.wrap_u64]; omega
    have hdn : decide (z < 0) = true := by simp [hneg]
    go_enter Try.func78, Try.ntmps78
    go_wp2_with fail
    go_loopw [3, 4] (fun q v wr => ∃ (k : Nat) (ys : List Nat), k ≤ z.natAbs ∧ q = .int .u64 k ∧ natL z.natAbs = ys ++ natL k ∧ wr.ownsRow (w.heap.size + 1) 3 1 v ys.length (i64s ys) ∧ Below (w.heap.size + 1) (w.alloc (.cells #[.bool false, .slice none 0 0] 33)) wr) (fun q _ _ => (intOf q).toNat)
    case atStart => exact ⟨z.natAbs, [], Nat.le_refl _, rfl, rfl, World.ownsRow_nil _ _ _ _, Below.refl _ _⟩
    case round =>
      obtain ⟨k, ys, hk, rfl, he, hown2, hB⟩ := hrel
      have hz2 := hB.size
      simp at hz2
      have hle : ys.length ≤ 4 := by
        have h1 := congrArg List.length he
        have h2 := natL4 (n := z.natAbs) (by omega)
        simp at h1
        omega
      have HB2 := hid hB
      have HO2 := hid hown2
      rcases Nat.eq_zero_or_pos k with rfl | hp
      · have HE := hid (show natL z.natAbs = ys by rw [he, natL_zero, List.append_nil])
        have HR := hid (heap_below hB (by simp) (heap_alloc_at _ _ _ rfl) : wr.heap[w.heap.size]? = some (.cells #[.bool false, .slice none 0 0] 33))
        have hf0 : wr.frozen? ⟨w.heap.size, 0, none⟩ = false := by have hh := HR.out; simp [World.frozen?, hh]
        have hf1 : wr.frozen? ⟨w.heap.size, 1, none⟩ = false := by have hh := HR.out; simp [World.frozen?, hh]
        have hc0 : wr.cell? ⟨w.heap.size, 0, none⟩ = some (.bool false) := (cell_row (j := 0) HR.out).trans rfl
        have hc1 : wr.cell? ⟨w.heap.size, 1, none⟩ = some (.slice none 0 0) := (cell_row (j := 1) HR.out).trans rfl
        obtain ⟨a, cap, rfl, hn, hsh, _⟩ := own_open hown2
        clear he hB hown2
        go_wp2_with (refine wpList_store_at rfl 33 (.tmp 2) (.tmp 24) rfl rfl rfl HR.out size33 rfl rfl rfl ?_)
        refine bodyPost_ret (results_at1 rfl rfl (setRow_heap _ _ _ _ _ _ HR.out) Try.underlying33 rfl size33 rfl) rfl ?_
        refine ⟨⟨_, rfl, ?_⟩, ?_⟩
        · unfold NatIn
          rw [HE.out]
          exact own_base3 (own_set HO2.out (Nat.lt_succ_self _)) (Nat.le_succ _)
        · have hB0 := HB2.out
          refine below_setRow (Below.trans ((Below.refl _ _).alloc (Nat.le_refl _) _) (hB0.mono (Nat.le_succ _))) (Nat.le_refl _) _
      · have HE := hid (show natL z.natAbs = (ys ++ [k % 65536]) ++ natL (k / 65536) by rw [he, natL_pos (by omega)]; simp)
        clear he hB hown2
        go_wp2_with (at_builtin; refine wpList_append_own _ rfl (.tmp 13) (.tmp 17) 31 rfl (w.heap.size + 1) 3 i0 (.int .i64 0) 1 8 Try.underlying31 HI.out HZ0.out HZ1.out HZ2.out rfl (by decide) _ ys.length (i64s ys) rfl (HO2.out.alloc _) ⟨wr.heap.size, 0, none⟩ 1 1 (i64s [k % 65536]) rfl rfl (i64_at (by omega)) (i64s_one _) (by unfold maxLen; omega) (by omega) (by simp; omega) ?_; intro v' w2 hown3 hgrow3 hnil3)
        have hb3 := grown_below3 HB2.out HO2.out hgrow3 hz2
        rw [← i64s_append, show ys.length + 1 = (ys ++ [k % 65536]).length by simp] at hown3
        have HB3 := hid hb3
        have HO3 := hid hown3
        clear hb3 hown3 hgrow3 hnil3
        go_wp2_with fail
        go_roundw
        case rel => exact ⟨k / 65536, ys ++ [k % 65536], by omega, by go_num, HE.out, HO3.out, HB3.out⟩
        case measure => (try simp [intOf]); (try omega)
  · have hw1 : IntKind.u64.wrap z = ((z.natAbs : Nat) : Int) := by rw [IntKind.wrap_u64]; omega
    have hdn : decide (z < 0) = false := by simp [hneg]
    go_enter Try.func78, Try.ntmps78
    go_wp2_with fail
    go_loopw [3, 4] (fun q v wr => ∃ (k : Nat) (ys : List Nat), k ≤ z.natAbs ∧ q = .int .u64 k ∧ natL z.natAbs = ys ++ natL k ∧ wr.ownsRow (w.heap.size + 1) 3 1 v ys.length (i64s ys) ∧ Below (w.heap.size + 1) (w.alloc (.cells #[.bool false, .slice none 0 0] 33)) wr) (fun q _ _ => (intOf q).toNat)
    case atStart => exact ⟨z.natAbs, [], Nat.le_refl _, rfl, rfl, World.ownsRow_nil _ _ _ _, Below.refl _ _⟩
    case round =>
      obtain ⟨k, ys, hk, rfl, he, hown2, hB⟩ := hrel
      have hz2 := hB.size
      simp at hz2
      have hle : ys.length ≤ 4 := by
        have h1 := congrArg List.length he
        have h2 := natL4 (n := z.natAbs) (by omega)
        simp at h1
        omega
      have HB2 := hid hB
      have HO2 := hid hown2
      rcases Nat.eq_zero_or_pos k with rfl | hp
      · have HE := hid (show natL z.natAbs = ys by rw [he, natL_zero, List.append_nil])
        have HR := hid (heap_below hB (by simp) (heap_alloc_at _ _ _ rfl) : wr.heap[w.heap.size]? = some (.cells #[.bool false, .slice none 0 0] 33))
        have hf0 : wr.frozen? ⟨w.heap.size, 0, none⟩ = false := by have hh := HR.out; simp [World.frozen?, hh]
        have hf1 : wr.frozen? ⟨w.heap.size, 1, none⟩ = false := by have hh := HR.out; simp [World.frozen?, hh]
        have hc0 : wr.cell? ⟨w.heap.size, 0, none⟩ = some (.bool false) := (cell_row (j := 0) HR.out).trans rfl
        have hc1 : wr.cell? ⟨w.heap.size, 1, none⟩ = some (.slice none 0 0) := (cell_row (j := 1) HR.out).trans rfl
        obtain ⟨a, cap, rfl, hn, hsh, _⟩ := own_open hown2
        clear he hB hown2
        go_wp2_with (refine wpList_store_at rfl 33 (.tmp 2) (.tmp 24) rfl rfl rfl HR.out size33 rfl rfl rfl ?_)
        refine bodyPost_ret (results_at1 rfl rfl (setRow_heap _ _ _ _ _ _ HR.out) Try.underlying33 rfl size33 rfl) rfl ?_
        refine ⟨⟨_, rfl, ?_⟩, ?_⟩
        · unfold NatIn
          rw [HE.out]
          exact own_base3 (own_set HO2.out (Nat.lt_succ_self _)) (Nat.le_succ _)
        · have hB0 := HB2.out
          refine below_setRow (Below.trans ((Below.refl _ _).alloc (Nat.le_refl _) _) (hB0.mono (Nat.le_succ _))) (Nat.le_refl _) _
      · have HE := hid (show natL z.natAbs = (ys ++ [k % 65536]) ++ natL (k / 65536) by rw [he, natL_pos (by omega)]; simp)
        clear he hB hown2
        go_wp2_with (at_builtin; refine wpList_append_own _ rfl (.tmp 13) (.tmp 17) 31 rfl (w.heap.size + 1) 3 i0 (.int .i64 0) 1 8 Try.underlying31 HI.out HZ0.out HZ1.out HZ2.out rfl (by decide) _ ys.length (i64s ys) rfl (HO2.out.alloc _) ⟨wr.heap.size, 0, none⟩ 1 1 (i64s [k % 65536]) rfl rfl (i64_at (by omega)) (i64s_one _) (by unfold maxLen; omega) (by omega) (by simp; omega) ?_; intro v' w2 hown3 hgrow3 hnil3)
        have hb3 := grown_below3 HB2.out HO2.out hgrow3 hz2
        rw [← i64s_append, show ys.length + 1 = (ys ++ [k % 65536]).length by simp] at hown3
        have HB3 := hid hb3
        have HO3 := hid hown3
        clear hb3 hown3 hgrow3 hnil3
        go_wp2_with fail
        go_roundw
        case rel => exact ⟨k / 65536, ys ++ [k % 65536], by omega, by go_num, HE.out, HO3.out, HB3.out⟩
        case measure => (try simp [intOf]); (try omega)
end Go.Proofs.Yteoikaedpgianaa
namespace Go.Proofs.Yteoikaedpgianaa
open Go.RowKit Limb

theorem digit_lt (n i : Nat) : n / 65536 ^ i % 65536 < 65536 := Nat.mod_lt _ (by decide)
set_option maxRecDepth 100000 in
set_option maxHeartbeats 800000 in
theorem plus_any (m n : Nat) (va vb : Value) (w : World) (ha : NatAt w va m) (hb : NatAt w vb n) (hla : (natL m).length ≤ 100000) (hlb : (natL n).length ≤ 100000) :
    Calls Try.prog 130 #[va, vb] w fun r w' => (∃ v, r = .returned v ∧ NatIn w.heap.size w' v (m + n)) ∧ Below w.heap.size w w' := by
  obtain ⟨i0, hi, hz0, hz1, hz2⟩ := info_parts info3
  have HI := hid hi
  have HZ0 := hid hz0
  have HZ1 := hid hz1
  have HZ2 := hid hz2
  clear hi hz0 hz1 hz2
  obtain ⟨a, ca, rfl, hsa, hra⟩ := ha.open
  obtain ⟨b, cb, rfl, hsb, hrb⟩ := hb.open
  have HA := hid hra
  have HB := hid hrb
  have HDM := hid (natL_digit_high m)
  have HDN := hid (natL_digit_high n)
  obtain ⟨mx, hmx⟩ : ∃ mx, (natL m).length ≤ mx ∧ (natL n).length ≤ mx ∧ mx ≤ 100000 := ⟨100000, hla, hlb, Nat.le_refl _⟩
  clear ha hb hra hrb
  have HEND := hid (fun (i : Nat) (o : List Nat) h => plus_end (m := m) (n := n) (i := i) (o := o) h)
  generalize (natL m).length = p at *
  generalize (natL n).length = q at *
  go_enter Try.func130, Try.ntmps130
  go_wp2_with fail
  go_loopw [5, 6, 7] (fun v cv iv wr => ∃ (k c : Nat) (ys : List Nat), k ≤ 100001 ∧ iv = .int .i64 k ∧ cv = .int .i64 c ∧ ys.length = k ∧ c ≤ 1 ∧ (k = 100001 → c = 0) ∧ (∀ x ∈ ys, x < 65536) ∧ val ys + c * 65536 ^ k = m % 65536 ^ k + n % 65536 ^ k ∧ wr.ownsRow w.heap.size 3 1 v ys.length (i64s ys) ∧ Below w.heap.size w wr) (fun _ _ i _ => 100002 - (intOf i).toNat)
  case atStart => exact ⟨0, 0, [], by omega, rfl, rfl, rfl, by omega, by omega, by simp, by simp [val, Nat.mod_one], World.ownsRow_nil _ _ _ _, Below.refl _ _⟩
  case round =>
    obtain ⟨k, c, ys, hk, rfl, rfl, rfl, hc, hkc, hlt, he, hown2, hB⟩ := hrel
    have hz2 := hB.size
    have HB2 := hid hB
    have HO2 := hid hown2
    have HLT := hid hlt
    have HA1 := hid (HA.out wr hB ys.length)
    have HB1 := hid (HB.out wr hB ys.length)
    have hd1 := digit_lt m ys.length
    have hd2 := digit_lt n ys.length
    have HDM1 := hid (HDM.out ys.length)
    have HDN1 := hid (HDN.out ys.length)
    have HS := hid (fun (s : Nat) hs => plus_step (m := m) (n := n) rfl he (s := s) hs)
    have HE := hid he
    have HEN := hid (HEND.out ys.length ys)
    clear hB hown2 hlt he
    by_cases h1 : ys.length < p
    · obtain ⟨g, rfl, hg, hca⟩ := HA1.out h1
      by_cases h2 : ys.length < q
      · obtain ⟨g', rfl, hg', hcb⟩ := HB1.out h2
        simp only at hca hcb
        generalize m / 65536 ^ ys.length % 65536 = x at *
        generalize n / 65536 ^ ys.length % 65536 = y at *
        go_wp2_with (at_builtin; refine wpList_append_own _ rfl (.tmp 46) (.tmp 49) 31 rfl w.heap.size 3 i0 (.int .i64 0) 1 8 Try.underlying31 HI.out HZ0.out HZ1.out HZ2.out rfl (by decide) _ ys.length (i64s ys) rfl (HO2.out.alloc _) ⟨wr.heap.size, 0, none⟩ 1 1 (i64s [(c + x + y) % 65536]) rfl rfl (i64_at (by omega)) (i64s_one _) (by unfold maxLen; omega) (by omega) (by simp; omega) ?_; intro v' w2 hown3 hgrow3 hnil3)
        have hb3 := grown_below3 HB2.out HO2.out hgrow3 hz2
        rw [← i64s_append, show ys.length + 1 = (ys ++ [(c + x + y) % 65536]).length by simp] at hown3
        have HB3 := hid hb3
        have HO3 := hid hown3
        clear hb3 hown3 hgrow3 hnil3
        go_wp2_with fail
        go_roundw
        case rel => exact ⟨ys.length + 1, (c + x + y) / 65536, ys ++ [(c + x + y) % 65536], by omega, by go_num, by go_num, by simp, by omega, by omega, by intro x hx; simp at hx; rcases hx with hx | rfl; exact HLT.out x hx; omega, HS.out _ (by omega), HO3.out, HB3.out⟩
        case measure => (try simp [intOf]); (try omega)
      · have hy : n / 65536 ^ ys.length % 65536 = 0 := by rw [HDN1.out (by omega)]
        simp only at hca
        generalize m / 65536 ^ ys.length % 65536 = x at *
        generalize n / 65536 ^ ys.length % 65536 = y at *
        go_wp2_with (at_builtin; refine wpList_append_own _ rfl (.tmp 46) (.tmp 49) 31 rfl w.heap.size 3 i0 (.int .i64 0) 1 8 Try.underlying31 HI.out HZ0.out HZ1.out HZ2.out rfl (by decide) _ ys.length (i64s ys) rfl (HO2.out.alloc _) ⟨wr.heap.size, 0, none⟩ 1 1 (i64s [(c + x) % 65536]) rfl rfl (i64_at (by omega)) (i64s_one _) (by unfold maxLen; omega) (by omega) (by simp; omega) ?_; intro v' w2 hown3 hgrow3 hnil3)
        have hb3 := grown_below3 HB2.out HO2.out hgrow3 hz2
        rw [← i64s_append, show ys.length + 1 = (ys ++ [(c + x) % 65536]).length by simp] at hown3
        have HB3 := hid hb3
        have HO3 := hid hown3
        clear hb3 hown3 hgrow3 hnil3
        go_wp2_with fail
        go_roundw
        case rel => exact ⟨ys.length + 1, (c + x) / 65536, ys ++ [(c + x) % 65536], by omega, by go_num, by go_num, by simp, by omega, by omega, by intro x hx; simp at hx; rcases hx with hx | rfl; exact HLT.out x hx; omega, HS.out _ (by omega), HO3.out, HB3.out⟩
        case measure => (try simp [intOf]); (try omega)
    · have hx : m / 65536 ^ ys.length % 65536 = 0 := by rw [HDM1.out (by omega)]
      by_cases h2 : ys.length < q
      · obtain ⟨g', rfl, hg', hcb⟩ := HB1.out h2
        simp only at hcb
        generalize m / 65536 ^ ys.length % 65536 = x at *
        generalize n / 65536 ^ ys.length % 65536 = y at *
        go_wp2_with (at_builtin; refine wpList_append_own _ rfl (.tmp 46) (.tmp 49) 31 rfl w.heap.size 3 i0 (.int .i64 0) 1 8 Try.underlying31 HI.out HZ0.out HZ1.out HZ2.out rfl (by decide) _ ys.length (i64s ys) rfl (HO2.out.alloc _) ⟨wr.heap.size, 0, none⟩ 1 1 (i64s [(c + y) % 65536]) rfl rfl (i64_at (by omega)) (i64s_one _) (by unfold maxLen; omega) (by omega) (by simp; omega) ?_; intro v' w2 hown3 hgrow3 hnil3)
        have hb3 := grown_below3 HB2.out HO2.out hgrow3 hz2
        rw [← i64s_append, show ys.length + 1 = (ys ++ [(c + y) % 65536]).length by simp] at hown3
        have HB3 := hid hb3
        have HO3 := hid hown3
        clear hb3 hown3 hgrow3 hnil3
        go_wp2_with fail
        go_roundw
        case rel => exact ⟨ys.length + 1, (c + y) / 65536, ys ++ [(c + y) % 65536], by omega, by go_num, by go_num, by simp, by omega, by omega, by intro x hx; simp at hx; rcases hx with hx | rfl; exact HLT.out x hx; omega, HS.out _ (by omega), HO3.out, HB3.out⟩
        case measure => (try simp [intOf]); (try omega)
      · have hy : n / 65536 ^ ys.length % 65536 = 0 := by rw [HDN1.out (by omega)]
        rcases Nat.eq_zero_or_pos c with rfl | hc0
        · have HV := hid (HEN.out HE.out (by omega) (by omega))
          go_wp2_with fail
          refine (trim_any w.heap.size ys.length _ ys wr HO2.out HLT.out).mono ?_
          rintro r w2 ⟨⟨v', rfl, hown⟩, rfl⟩
          go_wp2_with fail
          go_ret
          rw [HV.out] at hown
          exact ⟨⟨_, rfl, hown⟩, HB2.out⟩
        · generalize m / 65536 ^ ys.length % 65536 = x at *
          generalize n / 65536 ^ ys.length % 65536 = y at *
          go_wp2_with (at_builtin; refine wpList_append_own _ rfl (.tmp 46) (.tmp 49) 31 rfl w.heap.size 3 i0 (.int .i64 0) 1 8 Try.underlying31 HI.out HZ0.out HZ1.out HZ2.out rfl (by decide) _ ys.length (i64s ys) rfl (HO2.out.alloc _) ⟨wr.heap.size, 0, none⟩ 1 1 (i64s [c % 65536]) rfl rfl (i64_at (by omega)) (i64s_one _) (by unfold maxLen; omega) (by omega) (by simp; omega) ?_; intro v' w2 hown3 hgrow3 hnil3)
          have hb3 := grown_below3 HB2.out HO2.out hgrow3 hz2
          rw [← i64s_append, show ys.length + 1 = (ys ++ [c % 65536]).length by simp] at hown3
          have HB3 := hid hb3
          have HO3 := hid hown3
          clear hb3 hown3 hgrow3 hnil3
          go_wp2_with fail
          go_roundw
          case rel => exact ⟨ys.length + 1, c / 65536, ys ++ [c % 65536], by omega, by go_num, by go_num, by simp, by omega, by omega, by intro x hx; simp at hx; rcases hx with hx | rfl; exact HLT.out x hx; omega, HS.out _ (by omega), HO3.out, HB3.out⟩
          case measure => (try simp [intOf]); (try omega)

set_option maxRecDepth 100000 in
set_option maxHeartbeats 800000 in
theorem less_any (m n : Nat) (va vb : Value) (w : World) (ha : NatAt w va m) (hb : NatAt w vb n) (hla : (natL m).length ≤ 100000) (hnm : n ≤ m) :
    Calls Try.prog 132 #[va, vb] w fun r w' => (∃ v, r = .returned v ∧ NatIn w.heap.size w' v (m - n)) ∧ Below w.heap.size w w' := by
  obtain ⟨i0, hi, hz0, hz1, hz2⟩ := info_parts info3
  have HI := hid hi
  have HZ0 := hid hz0
  have HZ1 := hid hz1
  have HZ2 := hid hz2
  clear hi hz0 hz1 hz2
  obtain ⟨a, ca, rfl, hsa, hra⟩ := ha.open
  obtain ⟨b, cb, rfl, hsb, hrb⟩ := hb.open
  have HA := hid hra
  have HB := hid hrb
  have HDN := hid (natL_digit_high n)
  have hlb : (natL n).length ≤ (natL m).length := natL_length_mono hnm
  clear ha hb hra hrb
  have HEND := hid (fun (b : Nat) (o : List Nat) h h2 => less_end (m := m) (n := n) (b := b) (o := o) hnm h h2)
  generalize (natL m).length = p at *
  generalize (natL n).length = q at *
  clear hnm
  go_enter Try.func132, Try.ntmps132
  go_wp2_with fail
  go_loopw [5, 6, 7] (fun v cv iv wr => ∃ (k c : Nat) (ys : List Nat), k ≤ p ∧ iv = .int .i64 k ∧ cv = .int .i64 c ∧ ys.length = k ∧ c ≤ 1 ∧ (∀ x ∈ ys, x < 65536) ∧ val ys + n % 65536 ^ k = m % 65536 ^ k + c * 65536 ^ k ∧ wr.ownsRow w.heap.size 3 1 v ys.length (i64s ys) ∧ Below w.heap.size w wr) (fun _ _ i _ => p - (intOf i).toNat)
  case atStart => exact ⟨0, 0, [], by omega, rfl, rfl, rfl, by omega, by simp, by simp [val, Nat.mod_one], World.ownsRow_nil _ _ _ _, Below.refl _ _⟩
  case round =>
    obtain ⟨k, c, ys, hk, rfl, rfl, rfl, hc, hlt, he, hown2, hB⟩ := hrel
    have hz2 := hB.size
    have HB2 := hid hB
    have HO2 := hid hown2
    have HLT := hid hlt
    have HA1 := hid (HA.out wr hB ys.length)
    have HB1 := hid (HB.out wr hB ys.length)
    have hd1 := digit_lt m ys.length
    have hd2 := digit_lt n ys.length
    have HDN1 := hid (HDN.out ys.length)
    have HS := hid (fun (s b' : Nat) hs => less_step (m := m) (n := n) rfl he (s := s) (b' := b') hs)
    have HE := hid he
    have HEN := hid (HEND.out c ys)
    clear hB hown2 hlt he
    by_cases h1 : ys.length < p
    · obtain ⟨g, rfl, hg, hca⟩ := HA1.out h1
      by_cases h2 : ys.length < q
      · obtain ⟨g', rfl, hg', hcb⟩ := HB1.out h2
        simp only at hca hcb
        generalize m / 65536 ^ ys.length % 65536 = x at *
        generalize n / 65536 ^ ys.length % 65536 = y at *
        by_cases h3 : x < c + y
        · go_wp2_with (at_builtin; refine wpList_append_own _ rfl (.tmp 35) (.tmp 37) 31 rfl w.heap.size 3 i0 (.int .i64 0) 1 8 Try.underlying31 HI.out HZ0.out HZ1.out HZ2.out rfl (by decide) _ ys.length (i64s ys) rfl (HO2.out.alloc _) ⟨wr.heap.size, 0, none⟩ 1 1 (i64s [(x + 65536 - (c + y))]) rfl rfl (i64_at (by omega)) (i64s_one _) (by unfold maxLen; omega) (by omega) (by simp; omega) ?_; intro v' w2 hown3 hgrow3 hnil3)
          have hb3 := grown_below3 HB2.out HO2.out hgrow3 hz2
          rw [← i64s_append, show ys.length + 1 = (ys ++ [(x + 65536 - (c + y))]).length by simp] at hown3
          have HB3 := hid hb3
          have HO3 := hid hown3
          clear hb3 hown3 hgrow3 hnil3
          go_wp2_with fail
          go_roundw
          case rel => exact ⟨ys.length + 1, 1, ys ++ [(x + 65536 - (c + y))], by omega, by go_num, by go_num, by simp, by omega, by intro x hx; simp at hx; rcases hx with hx | rfl; exact HLT.out x hx; omega, HS.out _ _ (by omega), HO3.out, HB3.out⟩
          case measure => (try simp [intOf]); (try omega)
        · go_wp2_with (at_builtin; refine wpList_append_own _ rfl (.tmp 35) (.tmp 37) 31 rfl w.heap.size 3 i0 (.int .i64 0) 1 8 Try.underlying31 HI.out HZ0.out HZ1.out HZ2.out rfl (by decide) _ ys.length (i64s ys) rfl (HO2.out.alloc _) ⟨wr.heap.size, 0, none⟩ 1 1 (i64s [(x - (c + y))]) rfl rfl (i64_at (by omega)) (i64s_one _) (by unfold maxLen; omega) (by omega) (by simp; omega) ?_; intro v' w2 hown3 hgrow3 hnil3)
          have hb3 := grown_below3 HB2.out HO2.out hgrow3 hz2
          rw [← i64s_append, show ys.length + 1 = (ys ++ [(x - (c + y))]).length by simp] at hown3
          have HB3 := hid hb3
          have HO3 := hid hown3
          clear hb3 hown3 hgrow3 hnil3
          go_wp2_with fail
          go_roundw
          case rel => exact ⟨ys.length + 1, 0, ys ++ [(x - (c + y))], by omega, by go_num, by go_num, by simp, by omega, by intro x hx; simp at hx; rcases hx with hx | rfl; exact HLT.out x hx; omega, HS.out _ _ (by omega), HO3.out, HB3.out⟩
          case measure => (try simp [intOf]); (try omega)
      · have hy : n / 65536 ^ ys.length % 65536 = 0 := by rw [HDN1.out (by omega)]
        simp only at hca
        generalize m / 65536 ^ ys.length % 65536 = x at *
        generalize n / 65536 ^ ys.length % 65536 = y at *
        by_cases h3 : x < c
        · go_wp2_with (at_builtin; refine wpList_append_own _ rfl (.tmp 35) (.tmp 37) 31 rfl w.heap.size 3 i0 (.int .i64 0) 1 8 Try.underlying31 HI.out HZ0.out HZ1.out HZ2.out rfl (by decide) _ ys.length (i64s ys) rfl (HO2.out.alloc _) ⟨wr.heap.size, 0, none⟩ 1 1 (i64s [(x + 65536 - c)]) rfl rfl (i64_at (by omega)) (i64s_one _) (by unfold maxLen; omega) (by omega) (by simp; omega) ?_; intro v' w2 hown3 hgrow3 hnil3)
          have hb3 := grown_below3 HB2.out HO2.out hgrow3 hz2
          rw [← i64s_append, show ys.length + 1 = (ys ++ [(x + 65536 - c)]).length by simp] at hown3
          have HB3 := hid hb3
          have HO3 := hid hown3
          clear hb3 hown3 hgrow3 hnil3
          go_wp2_with fail
          go_roundw
          case rel => exact ⟨ys.length + 1, 1, ys ++ [(x + 65536 - c)], by omega, by go_num, by go_num, by simp, by omega, by intro x hx; simp at hx; rcases hx with hx | rfl; exact HLT.out x hx; omega, HS.out _ _ (by omega), HO3.out, HB3.out⟩
          case measure => (try simp [intOf]); (try omega)
        · go_wp2_with (at_builtin; refine wpList_append_own _ rfl (.tmp 35) (.tmp 37) 31 rfl w.heap.size 3 i0 (.int .i64 0) 1 8 Try.underlying31 HI.out HZ0.out HZ1.out HZ2.out rfl (by decide) _ ys.length (i64s ys) rfl (HO2.out.alloc _) ⟨wr.heap.size, 0, none⟩ 1 1 (i64s [(x - c)]) rfl rfl (i64_at (by omega)) (i64s_one _) (by unfold maxLen; omega) (by omega) (by simp; omega) ?_; intro v' w2 hown3 hgrow3 hnil3)
          have hb3 := grown_below3 HB2.out HO2.out hgrow3 hz2
          rw [← i64s_append, show ys.length + 1 = (ys ++ [(x - c)]).length by simp] at hown3
          have HB3 := hid hb3
          have HO3 := hid hown3
          clear hb3 hown3 hgrow3 hnil3
          go_wp2_with fail
          go_roundw
          case rel => exact ⟨ys.length + 1, 0, ys ++ [(x - c)], by omega, by go_num, by go_num, by simp, by omega, by intro x hx; simp at hx; rcases hx with hx | rfl; exact HLT.out x hx; omega, HS.out _ _ (by omega), HO3.out, HB3.out⟩
          case measure => (try simp [intOf]); (try omega)
    · have hkp : ys.length = p := by omega
      have HV := hid (HEN.out (by have := HE.out; rw [hkp] at this; exact this) (by rw [← hkp]; exact val_lt HLT.out))
      go_wp2_with fail
      refine (trim_any w.heap.size ys.length _ ys wr HO2.out HLT.out).mono ?_
      rintro r w2 ⟨⟨v', rfl, hown⟩, rfl⟩
      go_wp2_with fail
      go_ret
      rw [HV.out] at hown
      exact ⟨⟨_, rfl, hown⟩, HB2.out⟩
end Go.Proofs.Yteoikaedpgianaa
namespace Go.Proofs.Yteoikaedpgianaa
open Go.RowKit Limb

/-- a block that holds these limbs -/
def RowAt (W : World) (g : Nat) (o : List Nat) : Prop := W.heap[g]? = some (.cells (i64s o).toArray 3 (0, 0))
theorem RowAt.cell {W : World} {g j : Nat} {o : List Nat} (h : RowAt W g o) (hj : j < o.length) : W.cell? ⟨g, j, none⟩ = some (.int .i64 ((o.getD j 0 : Nat) : Int)) := by
  unfold RowAt at h
  simp [World.cell?, h, i64s, List.getD_eq_getElem?_getD, List.getElem?_eq_getElem hj]
theorem RowAt.free {W : World} {g j : Nat} {o : List Nat} (h : RowAt W g o) : W.frozen? ⟨g, j, none⟩ = false := by
  unfold RowAt at h
  simp [World.frozen?, h]
theorem RowAt.lt {W : World} {g : Nat} {o : List Nat} (h : RowAt W g o) : g < W.heap.size := (Array.getElem?_eq_some_iff.1 h).1
theorem RowAt.set {W : World} {g j x : Nat} {z : Int} {o : List Nat} (h : RowAt W g o) (hz : z = x) : RowAt (W.setCell ⟨g, j, none⟩ (.int .i64 z)) g (o.set j x) := by
  subst hz
  unfold RowAt at *
  simp only [World.setCell, Array.getElem?_modify]
  rw [if_pos trivial, h]
  simp [i64s, List.map_set]
theorem RowAt.grow {W W' : World} {g : Nat} {o : List Nat} (h : RowAt W g o) (hB : Below W.heap.size W W') : RowAt W' g o := heap_still hB h
theorem RowAt.own {W : World} {B g : Nat} {o : List Nat} (h : RowAt W g o) (hB : B ≤ g) (hl : o.length ≤ 1000000) : W.ownsRow B 3 1 (.slice (some ⟨g, 0, none⟩) o.length o.length) o.length (i64s o) := by
  refine ⟨by simp [i64s], Or.inr ⟨g, o.length, _, rfl, hB, h, Nat.le_refl _, by unfold maxLen; omega, by simp [i64s], ?_⟩⟩
  rw [List.toList_toArray, Nat.mul_one, ← i64s_len o, List.take_length]
theorem row_made (W : World) (n : Nat) : RowAt (W.alloc (.cells (madeCells #[.int .i64 0] n) 3)) W.heap.size (List.replicate n 0) := by
  refine (heap_alloc_at _ _ _ rfl).trans ?_
  congr 2
  apply Array.ext'
  rw [toList_madeCells_one]
  simp [i64s]
theorem getD_set_ne {o : List Nat} {i j x : Nat} (h : i ≠ j) : (o.set i x).getD j 0 = o.getD j 0 := by
  rw [List.getD_eq_getElem?_getD, List.getD_eq_getElem?_getD, List.getElem?_set_ne h]
theorem lt_set {o : List Nat} {i x : Nat} (h : ∀ y ∈ o, y < 65536) (hx : x < 65536) : ∀ y ∈ o.set i x, y < 65536 := by
  intro y hy
  rcases List.mem_or_eq_of_mem_set hy with h1 | rfl
  · exact h y h1
  · exact hx
theorem getD_lt {o : List Nat} (h : ∀ y ∈ o, y < 65536) (j : Nat) : o.getD j 0 < 65536 := by
  rw [List.getD_eq_getElem?_getD]
  rcases Nat.lt_or_ge j o.length with hj | hj
  · rw [List.getElem?_eq_getElem hj]; exact h _ (List.getElem_mem hj)
  · rw [List.getElem?_eq_none hj]; decide

set_option maxRecDepth 100000 in
set_option maxHeartbeats 800000 in
theorem mul_any (m n : Nat) (va vb : Value) (w : World) (ha : NatAt w va m) (hb : NatAt w vb n) (hla : (natL m).length ≤ 100000) (hlb : (natL n).length ≤ 100000) :
    Calls Try.prog 82 #[va, vb] w fun r w' => (∃ v, r = .returned v ∧ NatIn w.heap.size w' v (m * n)) ∧ Below w.heap.size w w' := by
  obtain ⟨i0, hi, hz0, hz1, hz2⟩ := info_parts info3
  have HI := hid hi
  have HZ0 := hid hz0
  have HZ1 := hid hz1
  have HZ2 := hid hz2
  clear hi hz0 hz1 hz2
  obtain ⟨a, ca, rfl, hsa, hra⟩ := ha.open
  obtain ⟨b, cb, rfl, hsb, hrb⟩ := hb.open
  have HA := hid hra
  have HB := hid hrb
  obtain ⟨p, hp⟩ : ∃ p, (natL m).length = p := ⟨_, rfl⟩
  obtain ⟨q, hq⟩ : ∃ q, (natL n).length = q := ⟨_, rfl⟩
  rw [hp] at hla HA hsa ⊢
  rw [hq] at hlb HB hsb ⊢
  have HP := hid (show m < 65536 ^ p from natL_length_le.1 (by omega))
  have HQ := hid hq
  clear ha hb hra hrb hp hq
  go_enter Try.func82, Try.ntmps82
  go_wp2_with (refine wpList_make_lc _ rfl (.tmp 14) (.tmp 14) 31 rfl 3 i0 (.int .i64 0) Try.underlying31 HI.out HZ0.out HZ1.out rfl .i64 .i64 ((p : Int) + (q : Int)) ((p : Int) + (q : Int)) (p + q) (p + q) rfl rfl (by omega) (by omega) (Nat.le_refl _) (by rw [HZ2.out]; omega) (by omega) ?_)
  have HR0 := hid (row_made w (p + q))
  have HB0 := hid ((Below.refl w.heap.size w).alloc (Nat.le_refl _) (.cells (madeCells #[.int .i64 0] (p + q)) 3))
  refine gen_world (fun W hW => ?_)
  rw [← hW] at HR0 HB0
  clear hW
  go_loopw [6] (fun iv wr => ∃ (i : Nat) (o : List Nat), i ≤ p ∧ iv = .int .i64 i ∧ o.length = p + q ∧ (∀ x ∈ o, x < 65536) ∧ (∀ j, i + q ≤ j → o.getD j 0 = 0) ∧ val o = m % 65536 ^ i * n ∧ RowAt wr w.heap.size o ∧ Below w.heap.size w wr) (fun i _ => p - (intOf i).toNat)
  case atStart => exact ⟨0, List.replicate (p + q) 0, by omega, rfl, by simp, by intro x hx; simp at hx; omega, by intro j hj; simp [List.getD_eq_getElem?_getD, List.getElem?_replicate]; split <;> rfl, by rw [val_replicate_zero]; simp [Nat.mod_one], HR0.out, HB0.out⟩
  case round =>
    obtain ⟨i, o, hi, rfl, hol, holt, hz, hv, hrow, hB⟩ := hrel
    by_cases h1 : i < p
    · have hd1 := digit_lt m i
      have HLAST := hid (fun c o hij hz h => mul_last (m := m) (n := n) (i := i) (c := c) (o := o) HQ.out hij hz h)
      generalize hx : m / 65536 ^ i % 65536 = x at *
      generalize hM : m % 65536 ^ i * n = M at *
      have HAI : Hid (∀ W', Below w.heap.size w W' → ∃ g, a = some ⟨g, 0, none⟩ ∧ g < w.heap.size ∧ W'.cell? ⟨g, i, none⟩ = some (.int .i64 ((x : Nat) : Int))) := hid (fun W' hW' => by
        obtain ⟨g, j1, j2, j3⟩ := HA.out W' hW' i h1
        exact ⟨g, j1, j2, j3.trans (by show some (Value.int .i64 ((m / 65536 ^ i % 65536 : Nat) : Int)) = _; rw [hx])⟩)
      have HST := hid (show val o + 0 * 65536 ^ (i + 0) = M + x * (65536 ^ i * (n % 65536 ^ 0)) by rw [hv]; simp [Nat.mod_one])
      have HO := hid (And.intro hol (And.intro holt (And.intro hz (And.intro hrow hB))))
      clear hol holt hz hrow hB hv hx hM
      go_wp2_with fail
      go_loopw [7, 8] (fun cv jv wr => ∃ (j c : Nat) (o : List Nat), j ≤ q ∧ jv = .int .i64 j ∧ cv = .int .i64 c ∧ c < 65536 ∧ o.length = p + q ∧ (∀ x ∈ o, x < 65536) ∧ (∀ j, i + q ≤ j → o.getD j 0 = 0) ∧ val o + c * 65536 ^ (i + j) = M + x * (65536 ^ i * (n % 65536 ^ j)) ∧ RowAt wr w.heap.size o ∧ Below w.heap.size w wr) (fun _ j _ => q - (intOf j).toNat)
      case atStart => exact ⟨0, 0, o, by omega, rfl, rfl, by omega, HO.out.1, HO.out.2.1, HO.out.2.2.1, HST.out, HO.out.2.2.2.1, HO.out.2.2.2.2⟩
      case round =>
        obtain ⟨j, c, o2, hj, rfl, rfl, hc, hol, holt, hz, hv, hrow, hB⟩ := hrel
        clear HO HST
        by_cases h2 : j < q
        · obtain ⟨g, rfl, hg, hca⟩ := HAI.out _ hB
          obtain ⟨g', rfl, hg', hcb⟩ := HB.out _ hB j h2
          have hcr := hrow.cell (j := i + j) (by omega)
          have hfr := hrow.free (j := i + j)
          have hd3 := getD_lt holt (i + j)
          have hd2 := digit_lt n j
          have HM := hid (fun (s : Nat) hs => mul_step (m := M) (n := n) (i := i) (j := j) (x := x) (by omega) hv (s := s) hs)
          simp only at hca hcb
          generalize n / 65536 ^ j % 65536 = y at *
          have HZ := hid hz
          have HLT := hid holt
          have HROW := hid hrow
          have HBW := hid hB
          have hsz := hB.size
          generalize o2.getD (i + j) 0 = z at *
          have hxy : x * y ≤ 65535 * 65535 := Nat.mul_le_mul (by omega) (by omega)
          have hxc : (x : Int) * (y : Int) = ((x * y : Nat) : Int) := by simp
          have hb1 : 0 ≤ (x : Int) * (y : Int) ∧ (x : Int) * (y : Int) ≤ 4294836225 := by rw [hxc]; omega
          have hrl := hrow.lt
          clear hz holt hrow hB hv hxc
          go_wp2_with fail
          go_quiet (fail)
          go_wp2_with fail
          go_roundw
          case rel => exact ⟨j + 1, (x * y + z + c) / 65536, o2.set (i + j) ((x * y + z + c) % 65536), by omega, by go_num, by go_num, by omega, by rw [List.length_set]; omega, lt_set HLT.out (by omega), fun k hk => by rw [getD_set_ne (by omega)]; exact HZ.out k hk, HM.out _ (by omega), RowAt.set HROW.out (by go_num), by have hB0 := HBW.out; (repeat' (first | (with_reducible exact Below.refl _ _) | (with_reducible assumption) | (with_reducible refine Below.alloc ?_ ?_ _) | (with_reducible refine Below.drew ?_) | (with_reducible refine below_drewN ?_ _) | (with_reducible refine Below.setCell ?_ ?_ _) | (with_reducible refine below_setRow ?_ ?_ _) | go_size))⟩
          case measure => (try simp [intOf]); (try omega)
        · obtain rfl : j = q := by omega
          have hcr := hrow.cell (j := i + j) (by omega)
          have hfr := hrow.free (j := i + j)
          have HV := hid (HLAST.out c o2 (by omega) (hz _ (Nat.le_refl _)) hv)
          have HZ := hid hz
          have HLT := hid holt
          have HROW := hid hrow
          have HBW := hid hB
          have hsz := hB.size
          have hrl := hrow.lt
          clear hz holt hrow hB hv
          go_wp2_with fail
          go_roundw
          case rel => exact ⟨i + 1, o2.set (i + j) c, by omega, by go_num, by rw [List.length_set]; omega, lt_set HLT.out (by omega), fun k hk => by rw [getD_set_ne (by omega)]; exact HZ.out k (by omega), HV.out, RowAt.set HROW.out rfl, by have hB0 := HBW.out; (repeat' (first | (with_reducible exact Below.refl _ _) | (with_reducible assumption) | (with_reducible refine Below.alloc ?_ ?_ _) | (with_reducible refine Below.drew ?_) | (with_reducible refine below_drewN ?_ _) | (with_reducible refine Below.setCell ?_ ?_ _) | (with_reducible refine below_setRow ?_ ?_ _) | go_size))⟩
          case measure => (try simp [intOf]); (try omega)
    · obtain rfl : i = p := by omega
      have HV := hid (show val o = m * n by rw [hv, Nat.mod_eq_of_lt HP.out])
      have HO := hid (RowAt.own hrow (Nat.le_refl _) (by omega))
      have HLT := hid holt
      have HBW := hid hB
      rw [hol] at HO
      clear hz holt hrow hB hv
      go_wp2_with fail
      refine (trim_any w.heap.size (i + q) _ o wr HO.out HLT.out).mono ?_
      rintro r w2 ⟨⟨v', rfl, hown⟩, rfl⟩
      go_wp2_with fail
      go_ret
      rw [HV.out] at hown
      exact ⟨⟨_, rfl, hown⟩, HBW.out⟩
end Go.Proofs.Yteoikaedpgianaa
namespace Go.Proofs.Yteoikaedpgianaa
open Go.RowKit Limb

theorem tdiv_nat {z : Int} {a b : Nat} (h : z = a) : z.tdiv (b : Int) = ((a / b : Nat) : Int) := by
  subst h
  rw [Int.tdiv_eq_ediv_of_nonneg (by omega)]; rfl
theorem tmod_nat {z : Int} {a b : Nat} (h : z = a) : z.tmod (b : Int) = ((a % b : Nat) : Int) := by
  subst h
  rw [Int.tmod_eq_emod_of_nonneg (by omega)]; rfl
set_option maxRecDepth 100000 in
set_option maxHeartbeats 800000 in
theorem short_any (m d : Nat) (va : Value) (w : World) (ha : NatAt w va m) (hla : (natL m).length ≤ 100000) (hd0 : 0 < d) (hd : d < 65536) :
    Calls Try.prog 157 #[va, .int .i64 d] w fun r w' => (∃ v, r = .returned (.tuple #[v, .int .i64 (m % d : Nat)]) ∧ NatIn w.heap.size w' v (m / d)) ∧ Below w.heap.size w w' := by
  obtain ⟨i0, hi, hz0, hz1, hz2⟩ := info_parts info3
  have HI := hid hi
  have HZ0 := hid hz0
  have HZ1 := hid hz1
  have HZ2 := hid hz2
  clear hi hz0 hz1 hz2
  obtain ⟨a, ca, rfl, hsa, hra⟩ := ha.open
  have HA := hid hra
  obtain ⟨p, hp⟩ : ∃ p, (natL m).length = p := ⟨_, rfl⟩
  rw [hp] at hla HA hsa ⊢
  have HP := hid (show m < 65536 ^ p from natL_length_le.1 (by omega))
  clear ha hra hp
  go_enter Try.func157, Try.ntmps157
  go_wp2_with (refine wpList_make_lc _ rfl (.tmp 11) (.tmp 11) 31 rfl 3 i0 (.int .i64 0) Try.underlying31 HI.out HZ0.out HZ1.out rfl .i64 .i64 (p : Int) (p : Int) p p rfl rfl rfl rfl (Nat.le_refl _) (by rw [HZ2.out]; omega) (by omega) ?_)
  have HR0 := hid (row_made w p)
  have HB0 := hid ((Below.refl w.heap.size w).alloc (Nat.le_refl _) (.cells (madeCells #[.int .i64 0] p) 3))
  refine gen_world (fun W hW => ?_)
  rw [← hW] at HR0 HB0
  clear hW
  go_loopw [7, 8] (fun rv iv wr => ∃ (k R : Nat) (o : List Nat), k ≤ p ∧ iv = .int .i64 ((k : Int) - 1) ∧ rv = .int .i64 R ∧ R < d ∧ o.length = p ∧ (∀ x ∈ o, x < 65536) ∧ (∀ j, j < k → o.getD j 0 = 0) ∧ val o * d + R * 65536 ^ k + m % 65536 ^ k = m ∧ RowAt wr w.heap.size o ∧ Below w.heap.size w wr) (fun _ i _ => (intOf i + 1).toNat)
  case atStart => exact ⟨p, 0, List.replicate p 0, by omega, by go_num, rfl, by omega, by simp, by intro x hx; simp at hx; omega, by intro j hj; simp [List.getD_eq_getElem?_getD, List.getElem?_replicate]; split <;> rfl, by rw [val_replicate_zero, Nat.mod_eq_of_lt HP.out]; simp, HR0.out, HB0.out⟩
  case round =>
    obtain ⟨k, R, o, hk, rfl, rfl, hR, hol, holt, hz, hv, hrow, hB⟩ := hrel
    rcases Nat.eq_zero_or_pos k with rfl | hkp
    · have HV := hid (div_end hR hv)
      have HO := hid (RowAt.own hrow (Nat.le_refl _) (by omega))
      have HLT := hid holt
      have HBW := hid hB
      rw [hol] at HO
      clear hz holt hrow hB hv
      go_wp2_with fail
      refine (trim_any w.heap.size p _ o wr HO.out HLT.out).mono ?_
      rintro r w2 ⟨⟨v', rfl, hown⟩, rfl⟩
      go_wp2_with fail
      go_ret2
      rw [HV.out.1] at hown
      exact ⟨⟨_, by rw [HV.out.2]; rfl, hown⟩, HBW.out⟩
    · obtain ⟨j, rfl⟩ : ∃ j, k = j + 1 := ⟨k - 1, by omega⟩
      obtain ⟨g, rfl, hg, hca⟩ := HA.out _ hB j (by omega)
      have hcr := hrow.cell (j := j) (by omega)
      have hfr := hrow.free (j := j)
      have HM := hid (fun (s : Nat) hs => div_step (U := m) (V := d) (R := R) (by omega) (hz j (by omega)) hv (s := s) hs)
      have hd1 := digit_lt m j
      simp only at hca
      generalize m / 65536 ^ j % 65536 = x at *
      have HZ := hid hz
      have HLT := hid holt
      have HROW := hid hrow
      have HBW := hid hB
      have hsz := hB.size
      have hrl := hrow.lt
      have hq : ((R : Int) * 65536 + (x : Int)).tdiv (d : Int) = (((R * 65536 + x) / d : Nat) : Int) := tdiv_nat (by omega)
      have hr : ((R : Int) * 65536 + (x : Int)).tmod (d : Int) = (((R * 65536 + x) % d : Nat) : Int) := tmod_nat (by omega)
      have hql : (R * 65536 + x) / d < 65536 := (Nat.div_lt_iff_lt_mul hd0).2 (by omega)
      have hrl2 : (R * 65536 + x) % d < d := Nat.mod_lt _ hd0
      have HX := hid (HM.out (R * 65536 + x) (by omega))
      generalize (R * 65536 + x) / d = Q at *
      generalize (R * 65536 + x) % d = S at *
      clear hz holt hrow hB hv HM
      go_wp2_with fail
      go_roundw
      case rel => exact ⟨j, S, o.set j Q, by omega, by go_num, by go_num, hrl2, by rw [List.length_set]; omega, lt_set HLT.out (by omega), fun k hk => by rw [getD_set_ne (by omega)]; exact HZ.out k (by omega), HX.out, RowAt.set HROW.out (by go_num), by have hB0 := HBW.out; (repeat' (first | (with_reducible exact Below.refl _ _) | (with_reducible assumption) | (with_reducible refine Below.alloc ?_ ?_ _) | (with_reducible refine Below.drew ?_) | (with_reducible refine below_drewN ?_ _) | (with_reducible refine Below.setCell ?_ ?_ _) | (with_reducible refine below_setRow ?_ ?_ _) | go_size))⟩
      case measure => (try simp [intOf]); (try omega)
end Go.Proofs.Yteoikaedpgianaa
