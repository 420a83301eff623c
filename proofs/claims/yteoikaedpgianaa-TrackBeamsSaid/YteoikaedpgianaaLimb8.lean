/- The reference's numbers: quotient and remainder, the greatest common divisor, and integers with a sign. -/
import Derived.Test.YteoikaedpgianaaLimb7
import Derived.Test.YteoikaedpgianaaExt2
import Derived.Test.YteoikaedpgianaaRatio
namespace Go.Proofs.Yteoikaedpgianaa
open Go.RowKit Limb

theorem divide_any (m n : Nat) (va vb : Value) (w : World) (ha : NatAt w va m) (hb : NatAt w vb n) (hla : (natL m).length ≤ 50000) (hn : 0 < n) :
    Calls Try.prog 129 #[va, vb] w fun r w' => (∃ q s, r = .returned (.tuple #[q, s]) ∧ NatAt w' q (m / n) ∧ NatAt w' s (m % n)) ∧ Below w.heap.size w w' := by
  rcases Nat.lt_or_ge m n with h | h
  · exact divide_low m n va vb w ha hb h
  · have h1 := length_pos hn
    by_cases h2 : (natL n).length = 1
    · exact divide_short m n va vb w ha hb (by omega) h h2
    · exact divide_long m n ((natL n).length - 1) va vb w ha hb hla h (by omega) (by omega)

/-- the number that a slice of limbs holds -/
def readNat (W : World) : Value → Nat
  | .slice (some a) n _ => match W.heap[a.block]? with
    | some (.cells cs _ _) => val ((cs.toList.take n).map fun v => (intOf v).toNat)
    | _ => 0
  | _ => 0
theorem NatAt.read {W : World} {v : Value} {m : Nat} (h : NatAt W v m) : readNat W v = m := by
  obtain ⟨h1, h2⟩ := h
  rcases h2 with ⟨rfl, h0⟩ | ⟨g, cap, cur, rfl, hg, hr, hn, hc, hs, ht⟩
  · rw [natL_eq_nil.1 (List.eq_nil_of_length_eq_zero h0)]; rfl
  · simp only [readNat, hr]
    rw [Nat.mul_one] at ht
    rw [ht, i64s, List.map_map]
    have : ((fun v => (intOf v).toNat) ∘ fun (x : Nat) => Value.int .i64 (x : Int)) = id := by
      funext x
      simp [intOf]
    rw [this, List.map_id, val_natL]
theorem natL_nil {n : Nat} (h : (natL n).length = 0) : n = 0 := natL_eq_nil.1 (List.eq_nil_of_length_eq_zero h)
set_option maxRecDepth 100000 in
set_option maxHeartbeats 800000 in
theorem gcd_any (m n : Nat) (va vb : Value) (w : World) (ha : NatAt w va m) (hb : NatAt w vb n) (hla : (natL m).length ≤ 50000) (hlb : (natL n).length ≤ 50000) :
    Calls Try.prog 128 #[va, vb] w fun r w' => (∃ v, r = .returned v ∧ NatAt w' v (Nat.gcd m n)) ∧ Below w.heap.size w w' := by
  obtain ⟨a, ca, rfl, _, _⟩ := ha.open
  obtain ⟨b, cb, rfl, _, _⟩ := hb.open
  have HA := hid ha
  have HB := hid hb
  have HLA := hid (show ∀ l, l = natL m → l.length ≤ 50000 by rintro l rfl; exact hla)
  have HLB := hid (show ∀ l, l = natL n → l.length ≤ 50000 by rintro l rfl; exact hlb)
  clear ha hb hla hlb
  generalize (natL m).length = p at *
  generalize (natL n).length = q at *
  go_enter Try.func128, Try.ntmps128
  go_wp2_with fail
  go_loopw [0, 1] (fun av bv wr => ∃ (x y : Nat), NatAt wr av x ∧ NatAt wr bv y ∧ Nat.gcd x y = Nat.gcd m n ∧ (natL x).length ≤ 50000 ∧ (natL y).length ≤ 50000 ∧ Below w.heap.size w wr) (fun _ bv wr => readNat wr bv)
  case atStart => exact ⟨m, n, HA.out, HB.out, rfl, HLA.out _ rfl, HLB.out _ rfl, Below.refl _ _⟩
  case round =>
    obtain ⟨x, y, hx, hy, hg, hlx, hly, hB⟩ := hrel
    have HX := hid hx
    have HY := hid hy
    have HG := hid hg
    have HLX := hid hlx
    have HLY := hid (show ∀ l, l = natL y → l.length ≤ 50000 by rintro l rfl; exact hly)
    have HBW := hid hB
    obtain ⟨a', ca', rfl, _, _⟩ := hx.open
    obtain ⟨b', cb', rfl, _, _⟩ := hy.open
    clear hx hy hg hlx hly hB
    rcases Nat.eq_zero_or_pos y with rfl | hy0
    · have hl0 : (natL 0).length = 0 := by rw [natL_zero]; rfl
      rw [hl0] at HY ⊢
      generalize (natL x).length = lx at *
      clear hl0
      go_wp2_with fail
      go_ret
      exact ⟨⟨_, rfl, by have hh := HX.out; rw [← HG.out, Nat.gcd_zero_right]; exact hh⟩, HBW.out⟩
    · have hlp : 0 < (natL y).length := length_pos hy0
      have HRD := hid HY.out.read
      have HDIV := hid (fun w hx hy => divide_any x y (.slice a' (natL x).length ca') (.slice b' (natL y).length cb') w hx hy HLX.out hy0)
      have HMOD := hid (Nat.mod_lt x hy0)
      have HGC := hid (show Nat.gcd y (x % y) = Nat.gcd m n by rw [← HG.out, Nat.gcd_comm x y, Nat.gcd_rec y x, Nat.gcd_comm])
      have HLM := hid (Nat.le_trans (natL_length_mono (Nat.le_of_lt (Nat.mod_lt x hy0))) (HLY.out _ rfl))
      generalize (natL x).length = lx at *
      generalize (natL y).length = ly at *
      go_wp2_with fail
      refine (HDIV.out _ HX.out HY.out).mono ?_
      rintro r w1 ⟨⟨qv, sv, rfl, hq, hs⟩, hb⟩
      have HS := hid hs
      have HY1 := hid (HY.out.grow hb)
      have HB1 := hid (HBW.out.trans (hb.mono HBW.out.size))
      clear hq hs hb
      go_wp2_with fail
      go_roundw
      case rel => exact ⟨y, x % y, HY1.out, HS.out, HGC.out, HLY.out _ rfl, HLM.out, HB1.out⟩
      case measure => rw [HRD.out]; refine Nat.lt_of_le_of_lt (Nat.le_of_eq HS.out.read) HMOD.out
end Go.Proofs.Yteoikaedpgianaa
