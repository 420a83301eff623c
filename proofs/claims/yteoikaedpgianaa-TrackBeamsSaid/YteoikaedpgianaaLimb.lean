/- The natural numbers of the reference: slices of limbs, and its functions that strike zeros, compare, and make a number. -/
import Derived.Test.YteoikaedpgianaaRows
import Derived.Test.YteoikaedpgianaaAid
import Derived.Test.YteoikaedpgianaaDiv
import Derived.OwnWalk
import Derived.LoopN
namespace Go.Proofs.Yteoikaedpgianaa
open Go.RowKit Limb

def i64s (l : List Nat) : List Value := l.map fun (x : Nat) => Value.int .i64 (x : Int)
theorem i64s_one (l : List Nat) : ∀ u ∈ i64s l, u.oneCell' = true := by
  intro u hu
  simp only [i64s, List.mem_map] at hu
  obtain ⟨x, _, rfl⟩ := hu
  rfl
theorem i64s_len (l : List Nat) : (i64s l).length = l.length := by simp [i64s]
theorem i64s_append (a b : List Nat) : i64s (a ++ b) = i64s a ++ i64s b := by simp [i64s]
theorem i64s_take (l : List Nat) (n : Nat) : (i64s l).take n = i64s (l.take n) := by simp [i64s, List.map_take]
/-- a number in memory -/
def NatAt (W : World) (v : Value) (m : Nat) : Prop := W.ownsRow 0 3 1 v (natL m).length (i64s (natL m))
theorem info3 : (Try.prog.info? 3).map (fun i => (i.zero, i.size, i.bytes)) = some (some (.int .i64 0), 1, 8) := by kernel_rfl

theorem own_grow {W W' : World} {B s n : Nat} {e : TypeId} {v : Value} {xs : List Value} (hB : Below W.heap.size W W') (h : W.ownsRow B e s v n xs) : W'.ownsRow B e s v n xs := by
  obtain ⟨h1, h2⟩ := h
  refine ⟨h1, ?_⟩
  rcases h2 with h2 | ⟨g, cap, cur, hv, hg, hr, h3⟩
  · exact Or.inl h2
  · exact Or.inr ⟨g, cap, cur, hv, hg, (hB.block g (Array.getElem?_eq_some_iff.1 hr).1).trans hr, h3⟩
theorem NatAt.grow {W W' : World} {v : Value} {m : Nat} (h : NatAt W v m) (hB : Below W.heap.size W W') : NatAt W' v m := own_grow hB h
/-- the shape of a slice -/
def Shp (W : World) (a : Option Addr) (n cap : Nat) : Prop := (a = none ∧ n = 0 ∧ cap = 0) ∨ (∃ g, a = some ⟨g, 0, none⟩ ∧ g < W.heap.size ∧ n ≤ cap ∧ cap ≤ maxLen)
theorem Shp.small {W : World} {a : Option Addr} {n cap : Nat} (h : Shp W a n cap) : n ≤ 9223372036854775807 := by
  rcases h with ⟨_, rfl, _⟩ | ⟨g, _, _, h1, h2⟩
  · omega
  · unfold maxLen at h2; omega
/-- its reads, in any grown world -/
def Rds (W : World) (a : Option Addr) (n : Nat) (f : Nat → Nat) : Prop := ∀ W', Below W.heap.size W W' → ∀ i, i < n → ∃ g, a = some ⟨g, 0, none⟩ ∧ g < W.heap.size ∧ W'.cell? ⟨g, i, none⟩ = some (.int .i64 ((f i : Nat) : Int))
theorem own_open {W : World} {B n : Nat} {v : Value} {l : List Nat} (h : W.ownsRow B 3 1 v n (i64s l)) :
    ∃ a cap, v = .slice a n cap ∧ l.length = n ∧ Shp W a n cap ∧ Rds W a n (fun i => l.getD i 0) := by
  obtain ⟨h1, h2⟩ := h
  rw [i64s_len, Nat.mul_one] at h1
  rcases h2 with ⟨rfl, rfl⟩ | ⟨g, cap, cur, rfl, hg, hr, hn, hc, hs, ht⟩
  · exact ⟨none, 0, rfl, h1, Or.inl ⟨rfl, rfl, rfl⟩, fun W' hB i hi => by omega⟩
  · have hlt := (Array.getElem?_eq_some_iff.1 hr).1
    refine ⟨some ⟨g, 0, none⟩, cap, rfl, h1, Or.inr ⟨g, rfl, hlt, hn, hc⟩, fun W' hB i hi => ⟨g, rfl, hlt, ?_⟩⟩
    have h3 : cur[i]? = some (.int .i64 ((l.getD i 0 : Nat) : Int)) := by
      have h4 := congrArg (fun (x : List Value) => x[i]?) ht
      simp only [Nat.mul_one, List.getElem?_take, if_pos hi, Array.getElem?_toList] at h4
      rw [h4]
      simp only [i64s, List.getElem?_map]
      rw [List.getD_eq_getElem?_getD, List.getElem?_eq_getElem (by omega)]
      rfl
    simp only [World.cell?, (hB.block g hlt).trans hr]
    simpa using h3
theorem NatAt.open {W : World} {v : Value} {m : Nat} (h : NatAt W v m) :
    ∃ a cap, v = .slice a (natL m).length cap ∧ Shp W a (natL m).length cap ∧ Rds W a (natL m).length (fun i => m / 65536 ^ i % 65536) := by
  obtain ⟨a, cap, hv, _, hs, hr⟩ := own_open h
  refine ⟨a, cap, hv, hs, fun W' hB i hi => ?_⟩
  obtain ⟨g, h1, h2, h3⟩ := hr W' hB i hi
  exact ⟨g, h1, h2, h3.trans (by show some (Value.int .i64 (((natL m).getD i 0 : Nat) : Int)) = _; rw [natL_getD])⟩
/-- a shorter slice of it -/
theorem own_short {W : World} {B n k : Nat} {a : Option Addr} {cap : Nat} {l : List Nat} (h : W.ownsRow B 3 1 (.slice a n cap) n (i64s l)) (hk : k ≤ n) : W.ownsRow B 3 1 (.slice a k cap) k (i64s (l.take k)) := by
  obtain ⟨h1, h2⟩ := h
  rw [i64s_len, Nat.mul_one] at h1
  refine ⟨by rw [i64s_len, List.length_take]; omega, ?_⟩
  rcases h2 with ⟨hv, rfl⟩ | ⟨g, cap', cur, hv, hg, hr, hn, hc, hs, ht⟩
  · obtain rfl : k = 0 := by omega
    cases hv
    exact Or.inl ⟨rfl, rfl⟩
  · cases hv
    refine Or.inr ⟨g, cap, cur, rfl, hg, hr, by omega, hc, hs, ?_⟩
    rw [← i64s_take, ← ht, List.take_take, Nat.mul_one, Nat.mul_one, Nat.min_eq_left hk]

set_option maxRecDepth 100000 in
theorem trim_any (B n : Nat) (v : Value) (l : List Nat) (w : World) (h : w.ownsRow B 3 1 v n (i64s l)) (hl : ∀ x ∈ l, x < 65536) :
    Calls Try.prog 133 #[v] w fun r w' => (∃ v', r = .returned v' ∧ w.ownsRow B 3 1 v' (natL (val l)).length (i64s (natL (val l)))) ∧ w = w' := by
  obtain ⟨a, cap, rfl, hn, hs, hr⟩ := own_open h
  have HO := hid h
  have HL := hid hl
  have HR := hid (hr w (Below.refl _ _))
  have HN := hid hn
  have HE : ∀ k : Nat, k ≤ n → (∀ i, k ≤ i → i < n → l.getD i 0 = 0) → (k = 0 ∨ l.getD (k - 1) 0 ≠ 0) → w.ownsRow B 3 1 (.slice a k cap) (natL (val l)).length (i64s (natL (val l))) := by
    intro k hk hz ht
    have := take_trim hl (n := k) (by omega) (by rw [hn]; exact hz) ht
    have h2 := own_short h hk
    rw [this] at h2
    have h3 := h2.1
    rw [i64s_len, Nat.mul_one] at h3
    rw [h3]
    exact h2
  clear h hl hr hn
  go_enter Try.func133, Try.ntmps133
  go_wp2_with fail
  go_loop [3] (fun q => ∃ k : Nat, k ≤ n ∧ q = .int .i64 k ∧ ∀ i, k ≤ i → i < n → l.getD i 0 = 0) (fun q => (intOf q).toNat)
  case atStart => exact ⟨n, Nat.le_refl _, rfl, fun i h1 h2 => by omega⟩
  case round =>
    obtain ⟨k, hk, rfl, hz⟩ := hrel
    rcases Nat.eq_zero_or_pos k with rfl | hp
    · have HX := hid (HE 0 (Nat.zero_le _) hz (Or.inl rfl))
      clear HE hz
      rcases hs with ⟨rfl, rfl, rfl⟩ | ⟨g, rfl, hg, hnc, hcm⟩
      · go_wp2_with fail
        go_ret
        exact ⟨⟨_, rfl, HX.out⟩, rfl⟩
      · go_wp2_with fail
        go_ret
        exact ⟨⟨_, rfl, HX.out⟩, rfl⟩
    · obtain ⟨j, rfl⟩ : ∃ j, k = j + 1 := ⟨k - 1, by omega⟩
      obtain ⟨g, rfl, hg, hc⟩ := HR.out j (by omega)
      have hnl : n ≤ 9223372036854775807 := hs.small
      by_cases hx : l.getD j 0 = 0
      · have HX := hid hx
        rw [hx] at hc
        have HZ := hid hz
        clear HE hx hz hs
        go_wp2_with fail
        go_round
        case rel => exact ⟨j, by omega, by go_num, fun i h1 h2 => by rcases Nat.eq_or_lt_of_le h1 with rfl | h3; exact HX.out; exact HZ.out i h3 h2⟩
        case measure => (try simp [intOf]); (try omega)
      · have HX := hid (HE (j + 1) hk hz (Or.inr (by simpa using hx)))
        generalize l.getD j 0 = x at *
        clear HE hz
        rcases hs with ⟨h, _⟩ | ⟨g', h, _, hnc, hcm⟩
        · cases h
        · cases h
          go_wp2_with fail
          go_ret
          exact ⟨⟨_, rfl, HX.out⟩, rfl⟩

theorem cmp_len {m n : Nat} (h : (natL m).length ≠ (natL n).length) : ((natL m).length < (natL n).length ∧ m < n) ∨ ((natL n).length < (natL m).length ∧ n < m) := by
  rcases Nat.lt_or_gt_of_ne h with h | h
  · exact Or.inl ⟨h, lt_of_length h⟩
  · exact Or.inr ⟨h, lt_of_length h⟩
/-- what the comparison returns -/
def cmpV (m n : Nat) : Int := if m < n then -1 else if n < m then 1 else 0

set_option maxRecDepth 100000 in
theorem compare_any (m n : Nat) (va vb : Value) (w : World) (ha : NatAt w va m) (hb : NatAt w vb n) :
    Calls Try.prog 131 #[va, vb] w fun r w' => r = .returned (.int .i64 (cmpV m n)) ∧ Below w.heap.size w w' := by
  obtain ⟨a, ca, rfl, hsa, hra⟩ := ha.open
  obtain ⟨b, cb, rfl, hsb, hrb⟩ := hb.open
  have HA := hid hra
  have HB := hid hrb
  have hla := hsa.small
  have hlb := hsb.small
  have HLEN := hid (@cmp_len m n)
  clear ha hb hra hrb
  by_cases hl : (natL m).length = (natL n).length
  · rw [← hl] at hlb HB ⊢
    have HL := hid hl
    clear hl HLEN
    have HS := hid (show m / 65536 ^ (natL m).length = n / 65536 ^ (natL m).length by rw [natL_digit_high m _ (Nat.le_refl _), natL_digit_high n _ (by rw [HL.out]; exact Nat.le_refl _)])
    generalize (natL m).length = p at *
    go_enter Try.func131, Try.ntmps131
    go_wp2_with fail
    go_loopw [5] (fun q wr => ∃ k : Nat, k ≤ p ∧ q = .int .i64 ((k : Int) - 1) ∧ m / 65536 ^ k = n / 65536 ^ k ∧ Below w.heap.size w wr) (fun q _ => (intOf q + 1).toNat)
    case atStart => exact ⟨p, Nat.le_refl _, by go_num, HS.out, Below.refl _ _⟩
    case round =>
      obtain ⟨k, hk, rfl, he, hbw⟩ := hrel
      rcases Nat.eq_zero_or_pos k with rfl | hp
      · have HV := hid (show cmpV m n = 0 by simp at he; unfold cmpV; rw [if_neg (by omega), if_neg (by omega)])
        have HBW := hid hbw
        clear he hbw
        go_wp2_with fail
        go_ret
        exact ⟨by rw [HV.out]; rfl, HBW.out⟩
      · obtain ⟨j, rfl⟩ : ∃ j, k = j + 1 := ⟨k - 1, by omega⟩
        obtain ⟨g, rfl, hg, hca⟩ := HA.out wr hbw j (by omega)
        obtain ⟨g', rfl, hg', hcb⟩ := HB.out wr hbw j (by omega)
        have HBW := hid hbw
        have HT := hid (@cmp_top m n j he)
        have HT' := hid (@cmp_top n m j he.symm)
        have HN := hid (@cmp_next m n j he)
        simp only at hca hcb
        clear he hbw
        generalize m / 65536 ^ j % 65536 = x at *
        generalize n / 65536 ^ j % 65536 = y at *
        by_cases hxy : x = y
        · have HE := hid (HN.out hxy)
          subst hxy
          go_wp2_with fail
          go_quiet (fail)
          go_wp2_with fail
          go_roundw
          case rel => exact ⟨j, by omega, by go_num, HE.out, by have hB0 := HBW.out; (repeat' (first | (with_reducible exact Below.refl _ _) | (with_reducible assumption) | (with_reducible refine Below.alloc ?_ ?_ _) | (with_reducible refine Below.drew ?_) | (with_reducible refine below_drewN ?_ _) | (with_reducible refine Below.setCell ?_ ?_ _) | (with_reducible refine below_setRow ?_ ?_ _) | go_size))⟩
          case measure => (try simp [intOf]); (try omega)
        · rcases Nat.lt_or_gt_of_ne hxy with hlt | hlt
          · have HV := hid (show cmpV m n = -1 by unfold cmpV; rw [if_pos (HT.out hlt)])
            go_wp2_with fail
            go_quiet (fail)
            go_wp2_with fail
            go_quiet (fail)
            go_wp2_with fail
            go_ret
            exact ⟨by rw [HV.out]; rfl, by have hB0 := HBW.out; (repeat' (first | (with_reducible exact Below.refl _ _) | (with_reducible assumption) | (with_reducible refine Below.alloc ?_ ?_ _) | (with_reducible refine Below.drew ?_) | (with_reducible refine below_drewN ?_ _) | (with_reducible refine Below.setCell ?_ ?_ _) | (with_reducible refine below_setRow ?_ ?_ _) | go_size))⟩
          · have HV := hid (show cmpV m n = 1 by have := HT'.out hlt; unfold cmpV; rw [if_neg (by omega), if_pos this])
            go_wp2_with fail
            go_quiet (fail)
            go_wp2_with fail
            go_quiet (fail)
            go_wp2_with fail
            go_ret
            exact ⟨by rw [HV.out]; rfl, by have hB0 := HBW.out; (repeat' (first | (with_reducible exact Below.refl _ _) | (with_reducible assumption) | (with_reducible refine Below.alloc ?_ ?_ _) | (with_reducible refine Below.drew ?_) | (with_reducible refine below_drewN ?_ _) | (with_reducible refine Below.setCell ?_ ?_ _) | (with_reducible refine below_setRow ?_ ?_ _) | go_size))⟩
  · have hc := HLEN.out hl
    generalize (natL m).length = p at *
    generalize (natL n).length = q at *
    rcases hc with ⟨h1, h2⟩ | ⟨h1, h2⟩
    · have HV := hid (show cmpV m n = -1 by unfold cmpV; rw [if_pos h2])
      clear h2 HLEN
      go_enter Try.func131, Try.ntmps131
      go_wp2_with fail
      go_ret
      exact ⟨by rw [HV.out]; rfl, Below.refl _ _⟩
    · have HV := hid (show cmpV m n = 1 by unfold cmpV; rw [if_neg (by omega), if_pos h2])
      clear h2 HLEN
      go_enter Try.func131, Try.ntmps131
      go_wp2_with fail
      go_ret
      exact ⟨by rw [HV.out]; rfl, Below.refl _ _⟩
end Go.Proofs.Yteoikaedpgianaa
