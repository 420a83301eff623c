/-
  No cell of these rows narrows 'for every input' (looked for: loops, veiled, ifaces, maps, wideKeys, modest, calm, conditions, laid).
  DERIVED. THE GIVEN ROWS OF THIS SEAT. 6 by the template 'for every input the law returns true; each argument reads behind the call as it read before'; 0 by the template 'total and deterministic' (their statements: YtpablkmdpoombaaTotals.lean).
  GIVEN WITH THE SEED: the statements are not yours to turn. If you find one false, say at which input.
  Laid BY PROGRAM, IN A SANDBOX (cutbox-rows.mjs): the forced cells as the released guide's own fill.sh prints them over the translation 5586875f2a027605… (all of the seat's roots in one cut). By AI agents, Wed Nov 11 2026. No macro, syntax, notation, axiom, sorry.
-/
import Derived.Test.YtpablkmdpoombaaChecked
import GoSem.Claim
import GoSem.ClaimJoined
import GoSem.ClaimMapViews
import Derived.JoinedTies
import Derived.KernelRfl
namespace Go.Proofs.Ytpablkmdpoombaa
/- THE CELL 'sum', in the pinned program and in every row, IS THE sha256 OF THE DUMP (.gsa) THAT YtpablkmdpoombaaProg.lean LOADS. Nothing in Lean hashes anything: it is a label: what it is worth is what the hold of that sum in a sandbox is worth. -/
noncomputable def Try.pinned : Pinned := { name := "ytpablkmdpoombaa", sum := "5586875f2a027605cc03a400c68ffee6f1d8cea93d5995ccd835e757380f7616", checked := Try.checked }
namespace Rows
def none {H : Type} : Left H := { results := [], args := [] }

/-- 'lidarlaw10.PlantShips': WHATEVER THE INPUT: true; the input reads as it did. -/
def plantShipsSpec : ChangeSpec := { name := "plantShips", fn := fun _ => fun
  | [d1, d2, d3] => { results := [.lit (.bool true)], args := [d1, d2, d3] }
  | _ => none }
def plantShipsRow : OpenClaim := { program := "ytpablkmdpoombaa", sum := "5586875f2a027605cc03a400c68ffee6f1d8cea93d5995ccd835e757380f7616", func := "lidar/lidarlaw10.PlantShips", spec := "plantShips", unfollowed := true, recurses := true, apart := false }
def PlantShipsSaid : Prop := plantShipsRow.holds Try.pinned (OpenSpec.ofChange plantShipsSpec)

/-- ITS FALSE NEIGHBOUR: 'it returns false'. Refute it at one input. -/
def plantShipsWrong : ChangeSpec := { name := "plantShips", fn := fun _ => fun
  | [d1, d2, d3] => { results := [.lit (.bool false)], args := [d1, d2, d3] }
  | _ => none }
def PlantShipsWrongFalsely : Prop := plantShipsRow.holds Try.pinned (OpenSpec.ofChange plantShipsWrong)

/-- 'lidarlaw10.PlantReceives': WHATEVER THE INPUT: true; the input reads as it did. -/
def plantReceivesSpec : ChangeSpec := { name := "plantReceives", fn := fun _ => fun
  | [d] => { results := [.lit (.bool true)], args := [d] }
  | _ => none }
def plantReceivesRow : OpenClaim := { program := "ytpablkmdpoombaa", sum := "5586875f2a027605cc03a400c68ffee6f1d8cea93d5995ccd835e757380f7616", func := "lidar/lidarlaw10.PlantReceives", spec := "plantReceives", unfollowed := true, recurses := true, apart := false }
def PlantReceivesSaid : Prop := plantReceivesRow.holds Try.pinned (OpenSpec.ofChange plantReceivesSpec)

/-- ITS FALSE NEIGHBOUR: 'it returns false'. Refute it at one input. -/
def plantReceivesWrong : ChangeSpec := { name := "plantReceives", fn := fun _ => fun
  | [d] => { results := [.lit (.bool false)], args := [d] }
  | _ => none }
def PlantReceivesWrongFalsely : Prop := plantReceivesRow.holds Try.pinned (OpenSpec.ofChange plantReceivesWrong)

/-- 'lidarlaw10.PlantMany': WHATEVER THE INPUT: true; the input reads as it did. -/
def plantManySpec : ChangeSpec := { name := "plantMany", fn := fun _ => fun
  | [d1, d2, d3] => { results := [.lit (.bool true)], args := [d1, d2, d3] }
  | _ => none }
def plantManyRow : OpenClaim := { program := "ytpablkmdpoombaa", sum := "5586875f2a027605cc03a400c68ffee6f1d8cea93d5995ccd835e757380f7616", func := "lidar/lidarlaw10.PlantMany", spec := "plantMany", unfollowed := true, recurses := true, apart := false }
def PlantManySaid : Prop := plantManyRow.holds Try.pinned (OpenSpec.ofChange plantManySpec)

/-- ITS FALSE NEIGHBOUR: 'it returns false'. Refute it at one input. -/
def plantManyWrong : ChangeSpec := { name := "plantMany", fn := fun _ => fun
  | [d1, d2, d3] => { results := [.lit (.bool false)], args := [d1, d2, d3] }
  | _ => none }
def PlantManyWrongFalsely : Prop := plantManyRow.holds Try.pinned (OpenSpec.ofChange plantManyWrong)

/-- 'lidarlaw10.PlantValid': WHATEVER THE INPUT: true; the input reads as it did. -/
def plantValidSpec : ChangeSpec := { name := "plantValid", fn := fun _ => fun
  | [d1, d2, d3] => { results := [.lit (.bool true)], args := [d1, d2, d3] }
  | _ => none }
def plantValidRow : OpenClaim := { program := "ytpablkmdpoombaa", sum := "5586875f2a027605cc03a400c68ffee6f1d8cea93d5995ccd835e757380f7616", func := "lidar/lidarlaw10.PlantValid", spec := "plantValid", unfollowed := true, recurses := true, apart := false }
def PlantValidSaid : Prop := plantValidRow.holds Try.pinned (OpenSpec.ofChange plantValidSpec)

/-- ITS FALSE NEIGHBOUR: 'it returns false'. Refute it at one input. -/
def plantValidWrong : ChangeSpec := { name := "plantValid", fn := fun _ => fun
  | [d1, d2, d3] => { results := [.lit (.bool false)], args := [d1, d2, d3] }
  | _ => none }
def PlantValidWrongFalsely : Prop := plantValidRow.holds Try.pinned (OpenSpec.ofChange plantValidWrong)

/-- 'lidarlaw10.PlantSelects': WHATEVER THE INPUT: true; the input reads as it did. -/
def plantSelectsSpec : ChangeSpec := { name := "plantSelects", fn := fun _ => fun
  | [d1, d2] => { results := [.lit (.bool true)], args := [d1, d2] }
  | _ => none }
def plantSelectsRow : OpenClaim := { program := "ytpablkmdpoombaa", sum := "5586875f2a027605cc03a400c68ffee6f1d8cea93d5995ccd835e757380f7616", func := "lidar/lidarlaw10.PlantSelects", spec := "plantSelects", unfollowed := true, recurses := true, apart := false }
def PlantSelectsSaid : Prop := plantSelectsRow.holds Try.pinned (OpenSpec.ofChange plantSelectsSpec)

/-- ITS FALSE NEIGHBOUR: 'it returns false'. Refute it at one input. -/
def plantSelectsWrong : ChangeSpec := { name := "plantSelects", fn := fun _ => fun
  | [d1, d2] => { results := [.lit (.bool false)], args := [d1, d2] }
  | _ => none }
def PlantSelectsWrongFalsely : Prop := plantSelectsRow.holds Try.pinned (OpenSpec.ofChange plantSelectsWrong)

/-- 'lidarlaw10.PlantDifferences': WHATEVER THE INPUT: true; the input reads as it did. -/
def plantDifferencesSpec : ChangeSpec := { name := "plantDifferences", fn := fun _ => fun
  | [d1, d2] => { results := [.lit (.bool true)], args := [d1, d2] }
  | _ => none }
def plantDifferencesRow : OpenClaim := { program := "ytpablkmdpoombaa", sum := "5586875f2a027605cc03a400c68ffee6f1d8cea93d5995ccd835e757380f7616", func := "lidar/lidarlaw10.PlantDifferences", spec := "plantDifferences", unfollowed := true, recurses := true, apart := false }
def PlantDifferencesSaid : Prop := plantDifferencesRow.holds Try.pinned (OpenSpec.ofChange plantDifferencesSpec)

/-- ITS FALSE NEIGHBOUR: 'it returns false'. Refute it at one input. -/
def plantDifferencesWrong : ChangeSpec := { name := "plantDifferences", fn := fun _ => fun
  | [d1, d2] => { results := [.lit (.bool false)], args := [d1, d2] }
  | _ => none }
def PlantDifferencesWrongFalsely : Prop := plantDifferencesRow.holds Try.pinned (OpenSpec.ofChange plantDifferencesWrong)

/- THE SECOND FORM. 'bulk': how many values and letters a reading holds, each counted each time it is reached (what is shared counts as often as it is met; a slice's spare places count too). A statement '..UptoSaid' is the law's where the arguments, and the package variables that the reading takes, are together of bulk at most 1048576: NARROWER than '..Said'. Prove '..Said' where nothing that the law and all that it calls make is longer than what came in: it says more and counts as full. Else prove '..UptoSaid'. A law counts once. -/
mutual
def uptoBulk {H : Type} : DataW H → Nat
  | .lit (.string bytes) => bytes.length + 1
  | .lit _ => 1
  | .nil => 1
  | .ptr d => uptoBulk d + 1
  | .slice elems spare => uptoBulkAll elems + uptoBulkAll spare + 1
  | .agg parts => uptoBulkAll parts + 1
  | .iface _ d => uptoBulk d + 1
  | .map entries => uptoBulkEntries entries + 1
  | .held _ => 1
def uptoBulkAll {H : Type} : List (DataW H) → Nat
  | [] => 0
  | d :: r => uptoBulk d + uptoBulkAll r
def uptoBulkEntries {H : Type} : List (Lit × DataW H) → Nat
  | [] => 0
  | x :: r => uptoBulkEntry x + uptoBulkEntries r
def uptoBulkEntry {H : Type} : Lit × DataW H → Nat
  | (.string bytes, d) => bytes.length + uptoBulk d + 1
  | (_, d) => uptoBulk d + 1
 end
def uptoSmall : (H : Type) → List (DataW H) → Bool := fun _ ds => decide (uptoBulkAll ds ≤ 1048576)
def OpenSpec.upto (s : _root_.Go.ChangeSpec) : _root_.Go.OpenSpec := { _root_.Go.OpenSpec.ofChange s with cond := some uptoSmall }

/-- 'lidarlaw10.PlantShips', WHERE WHAT IT READS IS OF BULK AT MOST 1048576: true; the input reads as it did. -/
def plantShipsUptoRow : OpenClaim := { program := "ytpablkmdpoombaa", sum := "5586875f2a027605cc03a400c68ffee6f1d8cea93d5995ccd835e757380f7616", func := "lidar/lidarlaw10.PlantShips", spec := "plantShips", unfollowed := true, recurses := true, apart := false, narrowed := true }
def PlantShipsUptoSaid : Prop := plantShipsUptoRow.holds Try.pinned (OpenSpec.upto plantShipsSpec)

/-- 'lidarlaw10.PlantReceives', WHERE WHAT IT READS IS OF BULK AT MOST 1048576: true; the input reads as it did. -/
def plantReceivesUptoRow : OpenClaim := { program := "ytpablkmdpoombaa", sum := "5586875f2a027605cc03a400c68ffee6f1d8cea93d5995ccd835e757380f7616", func := "lidar/lidarlaw10.PlantReceives", spec := "plantReceives", unfollowed := true, recurses := true, apart := false, narrowed := true }
def PlantReceivesUptoSaid : Prop := plantReceivesUptoRow.holds Try.pinned (OpenSpec.upto plantReceivesSpec)

/-- 'lidarlaw10.PlantMany', WHERE WHAT IT READS IS OF BULK AT MOST 1048576: true; the input reads as it did. -/
def plantManyUptoRow : OpenClaim := { program := "ytpablkmdpoombaa", sum := "5586875f2a027605cc03a400c68ffee6f1d8cea93d5995ccd835e757380f7616", func := "lidar/lidarlaw10.PlantMany", spec := "plantMany", unfollowed := true, recurses := true, apart := false, narrowed := true }
def PlantManyUptoSaid : Prop := plantManyUptoRow.holds Try.pinned (OpenSpec.upto plantManySpec)

/-- 'lidarlaw10.PlantValid', WHERE WHAT IT READS IS OF BULK AT MOST 1048576: true; the input reads as it did. -/
def plantValidUptoRow : OpenClaim := { program := "ytpablkmdpoombaa", sum := "5586875f2a027605cc03a400c68ffee6f1d8cea93d5995ccd835e757380f7616", func := "lidar/lidarlaw10.PlantValid", spec := "plantValid", unfollowed := true, recurses := true, apart := false, narrowed := true }
def PlantValidUptoSaid : Prop := plantValidUptoRow.holds Try.pinned (OpenSpec.upto plantValidSpec)

/-- 'lidarlaw10.PlantSelects', WHERE WHAT IT READS IS OF BULK AT MOST 1048576: true; the input reads as it did. -/
def plantSelectsUptoRow : OpenClaim := { program := "ytpablkmdpoombaa", sum := "5586875f2a027605cc03a400c68ffee6f1d8cea93d5995ccd835e757380f7616", func := "lidar/lidarlaw10.PlantSelects", spec := "plantSelects", unfollowed := true, recurses := true, apart := false, narrowed := true }
def PlantSelectsUptoSaid : Prop := plantSelectsUptoRow.holds Try.pinned (OpenSpec.upto plantSelectsSpec)

/-- 'lidarlaw10.PlantDifferences', WHERE WHAT IT READS IS OF BULK AT MOST 1048576: true; the input reads as it did. -/
def plantDifferencesUptoRow : OpenClaim := { program := "ytpablkmdpoombaa", sum := "5586875f2a027605cc03a400c68ffee6f1d8cea93d5995ccd835e757380f7616", func := "lidar/lidarlaw10.PlantDifferences", spec := "plantDifferences", unfollowed := true, recurses := true, apart := false, narrowed := true }
def PlantDifferencesUptoSaid : Prop := plantDifferencesUptoRow.holds Try.pinned (OpenSpec.upto plantDifferencesSpec)

end Rows
end Go.Proofs.Ytpablkmdpoombaa
