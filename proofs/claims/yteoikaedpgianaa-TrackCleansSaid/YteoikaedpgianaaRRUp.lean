/- The reference's share, rounded up, and its distance. -/
import Derived.Test.YteoikaedpgianaaRFixR
namespace Go.Proofs.Yteoikaedpgianaa
open Go.RowKit Limb

theorem floor_div (n d : Int) (hd : 0 < d) : ((n : Rat) / (d : Rat)).floor = n / d := by
  have hdr : (0 : Rat) < (d : Rat) := Rat.intCast_pos.2 hd
  have key : ∀ k : Int, k ≤ ((n : Rat) / (d : Rat)).floor ↔ k ≤ n / d := by
    intro k
    rw [Rat.le_floor_iff, ← Rat.not_lt, Rat.div_lt_iff hdr, Rat.not_lt, ← Rat.intCast_mul, Rat.intCast_le_intCast, Int.le_ediv_iff_mul_le hd]
  have h1 := (key _).1 (Int.le_refl _)
  have h2 := (key _).2 (Int.le_refl _)
  omega
/-- a * b / d, rounded up -/
def upV (a b d : Int) : Int := -((-(a * b)) / d)
theorem ceil_up (a b d : Int) (hd : 0 < d) : ((a : Rat) * (b : Rat) / (d : Rat)).ceil = upV a b d := by
  rw [Rat.ceil_eq_neg_floor_neg]
  unfold upV
  congr 1
  rw [← floor_div _ _ hd, Rat.div_def, Rat.div_def, ← Rat.neg_mul, Rat.intCast_neg, Rat.intCast_mul]
set_option maxRecDepth 100000 in
set_option maxHeartbeats 800000 in
theorem up_any (a b d : Int) (w : World) (ha : -9223372036854775808 ≤ a ∧ a ≤ 9223372036854775807) (hb : -9223372036854775808 ≤ b ∧ b ≤ 9223372036854775807) (hd : 0 < d ∧ d ≤ 9223372036854775807)
    (hf : -4611686018427387904 ≤ upV a b d ∧ upV a b d ≤ 4611686018427387904) :
    Calls Try.prog 98 #[.int .i64 a, .int .i64 b, .int .i64 d] w fun r w' => r = .returned (.int .i64 (upV a b d)) ∧ Below w.heap.size w w' := by
  have H1 := hid (fun W => whole_any a W ha)
  have H2 := hid (fun W => whole_any b W hb)
  have H3 := hid (fun W => whole_any d W (by omega))
  have H4 := hid (fun W v v' h h' => qmul_any (a : Rat) (b : Rat) 4 v v' W h h' (by decide))
  have H5 := hid (fun W v v' h h' => qdiv_any ((a : Rat) * (b : Rat)) (d : Rat) 8 v v' W h h' (by decide) (by intro h; have := Rat.intCast_eq_zero_iff.1 h; omega))
  have H6 := hid (fun W v h => qceil_any ((a : Rat) * (b : Rat) / (d : Rat)) 16 v W h (by decide))
  rw [ceil_up a b d hd.1] at H6
  have H7 := hid (fun W v h => fits_any (upV a b d) 18 v W h hf)
  clear ha hb hd hf
  generalize upV a b d = u at *
  go_enter Try.func98, Try.ntmps98
  go_wp2_with fail
  refine (H1.out _).mono ?_
  rintro r w1 ⟨⟨v1, rfl, hv1⟩, hb1⟩
  have HB1 := hid hb1
  have HV1 := hid hv1
  clear hb1 hv1
  go_wp2_with fail
  refine (H2.out _).mono ?_
  rintro r w2 ⟨⟨v2, rfl, hv2⟩, hb2⟩
  have HB2 := hid (HB1.out.trans (hb2.mono HB1.out.size))
  have HV12 := hid (HV1.out.grow hb2)
  have HV2 := hid hv2
  clear hb2 hv2
  go_wp2_with fail
  refine (H4.out _ _ _ HV12.out HV2.out).mono ?_
  rintro r w3 ⟨⟨v3, rfl, hv3⟩, hb3⟩
  have HB3 := hid (HB2.out.trans (hb3.mono HB2.out.size))
  have HV3 := hid hv3
  clear hb3 hv3
  go_wp2_with fail
  refine (H3.out _).mono ?_
  rintro r w4 ⟨⟨v4, rfl, hv4⟩, hb4⟩
  have HB4 := hid (HB3.out.trans (hb4.mono HB3.out.size))
  have HV34 := hid (HV3.out.grow hb4)
  have HV4 := hid (hv4.wide (k' := 8) (by decide))
  clear hb4 hv4
  go_wp2_with fail
  refine (H5.out _ _ _ HV34.out HV4.out).mono ?_
  rintro r w5 ⟨⟨v5, rfl, hv5⟩, hb5⟩
  have HB5 := hid (HB4.out.trans (hb5.mono HB4.out.size))
  have HV5 := hid hv5
  clear hb5 hv5
  go_wp2_with fail
  refine (H6.out _ _ HV5.out).mono ?_
  rintro r w6 ⟨⟨v6, rfl, hv6⟩, hb6⟩
  have HB6 := hid (HB5.out.trans (hb6.mono HB5.out.size))
  have HV6 := hid hv6
  clear hb6 hv6
  go_wp2_with fail
  refine (H7.out _ _ HV6.out).mono ?_
  rintro r w7 ⟨rfl, hb7⟩
  have HB7 := hid (HB6.out.trans (hb7.mono HB6.out.size))
  clear hb7
  go_wp2_with fail
  go_ret
  exact ⟨rfl, HB7.out⟩
/-- the distance of two numbers -/
def apartV (a b : Int) : Int := if a ≤ b then b - a else a - b
set_option maxRecDepth 100000 in
theorem apart_any (a b : Int) (w : World) (ha : -4611686018427387904 ≤ a ∧ a ≤ 4611686018427387903) (hb : -4611686018427387904 ≤ b ∧ b ≤ 4611686018427387903) :
    Calls Try.prog 141 #[.int .i64 a, .int .i64 b] w fun r w' => r = .returned (.int .i64 (apartV a b)) ∧ w = w' := by
  go_enter Try.func141, Try.ntmps141
  go_wp2_with fail
  all_goals
    go_ret
    refine ⟨?_, rfl⟩
    show Ending.returned (Value.int .i64 _) = Ending.returned (Value.int .i64 _)
    congr 2
    unfold apartV
    split <;> omega
end Go.Proofs.Yteoikaedpgianaa
