/- The program's test whether two fixes are near each other. The reference's Near. The program's Near. -/
import Derived.Test.YteoikaedpgianaaRNear
import Derived.Test.YteoikaedpgianaaShare
import Derived.Test.YteoikaedpgianaaTrack
namespace Go.Proofs.Yteoikaedpgianaa
open Go.RowKit Limb

theorem share_calm (a b c : Int) (w : World) (ha : 0 ≤ a ∧ a ≤ 9223372036854775807) (hb : 0 ≤ b ∧ b ≤ 9223372036854775807) (hc : 0 < c ∧ c ≤ 9223372036854775807) (hf : upV a b c ≤ 4611686018427387904) :
    Calls Try.prog 95 #[.int .i64 a, .int .i64 b, .int .i64 c] w fun r w' => r = .returned (.int .i64 (upV a b c)) ∧ Below w.heap.size w w' :=
  (share_any a b c w ha hb hc hf).mono fun _ _ ⟨h1, n, h2⟩ => ⟨h1, h2 ▸ below_drewN (Below.refl _ _) n⟩
end Go.Proofs.Yteoikaedpgianaa
namespace Go.Proofs.Yteoikaedpgianaa
open Go.RowKit Limb

theorem fix_place {t x y z e a b c d g : Int} (h : fixB t x y z e a b c d g = true) :
    (-134217728 ≤ x ∧ x ≤ 134217728) ∧ (-134217728 ≤ y ∧ y ≤ 134217728) ∧ (-134217728 ≤ z ∧ z ≤ 134217728) ∧ (0 ≤ t ∧ t ≤ 1125899906842624) ∧ (0 ≤ e ∧ e ≤ 100000) := by
  unfold fixB at h
  simp only [Bool.and_eq_true] at h
  obtain ⟨⟨⟨⟨h1, h2⟩, h3⟩, _⟩, _⟩ := h
  simp [inB] at h1 h2 h3
  omega
end Go.Proofs.Yteoikaedpgianaa
namespace Go.Proofs.Yteoikaedpgianaa
open Go.RowKit Limb

end Go.Proofs.Yteoikaedpgianaa
