/- Tracks: what the tests of the program and of its reference return. -/
import Derived.Test.YteoikaedpgianaaRValid
namespace Go.Proofs.Yteoikaedpgianaa
open Go.RowKit

theorem size55 : (Try.prog.info? 55).map (·.size) = some 10 := by kernel_rfl
/-- a fix by its ten cells -/
def fixF (g : Nat → Int) : Bool := fixB (g 0) (g 1) (g 2) (g 3) (g 4) (g 5) (g 6) (g 7) (g 8) (g 9)
def recs10 (w : World) (b off n : Nat) (F : Nat → Nat → Int) : Prop := ∀ i, i < n → ∀ j, j < 10 → w.cell? ⟨b, off + i * 10 + j, none⟩ = some (.int .i64 (F i j))
theorem recs10.still {w w' : World} {b off n B : Nat} {F : Nat → Nat → Int} (h : recs10 w b off n F) (hb : Below B w w') (hB : b < B) : recs10 w' b off n F :=
  fun i hi j hj => by rw [hb.cell hB]; exact h i hi j hj
end Go.Proofs.Yteoikaedpgianaa
