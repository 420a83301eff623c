/-
  No cell of these rows narrows 'for every input' (looked for: loops, veiled, ifaces, maps, wideKeys, modest, calm, conditions, laid).
  DERIVED. THE GIVEN ROWS OF THIS SEAT. 11 by the template 'for every input the law returns true; each argument reads behind the call as it read before'; 0 by the template 'total and deterministic' (their statements: YteanlcefdoigcaaTotals.lean).
  GIVEN WITH THE SEED: the statements are not yours to turn. If you find one false, say at which input.
  Laid BY PROGRAM, IN A SANDBOX (cutbox-rows.mjs): the forced cells as the released guide's own fill.sh prints them over the translation b6a5529158a73bd4… (all of the seat's roots in one cut). By AI agents, Wed Nov 11 2026. No macro, syntax, notation, axiom, sorry.
-/
import Derived.Test.YteanlcefdoigcaaChecked
import GoSem.Claim
import GoSem.ClaimJoined
import GoSem.ClaimMapViews
import Derived.JoinedTies
import Derived.KernelRfl
namespace Go.Proofs.Yteanlcefdoigcaa
/- THE CELL 'sum', in the pinned program and in every row, IS THE sha256 OF THE DUMP (.gsa) THAT YteanlcefdoigcaaProg.lean LOADS. Nothing in Lean hashes anything: it is a label: what it is worth is what the hold of that sum in a sandbox is worth. -/
noncomputable def Try.pinned : Pinned := { name := "yteanlcefdoigcaa", sum := "b6a5529158a73bd4ac08896856408286965e55ab6e743639ab018ad5f2d3df12", checked := Try.checked }
namespace Rows
def none {H : Type} : Left H := { results := [], args := [] }

/-- 'lidarlaw08.TileLayouts': WHATEVER THE INPUT: true; the input reads as it did. -/
def tileLayoutsSpec : ChangeSpec := { name := "tileLayouts", fn := fun _ => fun
  | [d1, d2] => { results := [.lit (.bool true)], args := [d1, d2] }
  | _ => none }
def tileLayoutsRow : OpenClaim := { program := "yteanlcefdoigcaa", sum := "b6a5529158a73bd4ac08896856408286965e55ab6e743639ab018ad5f2d3df12", func := "lidar/lidarlaw08.TileLayouts", spec := "tileLayouts", unfollowed := true, recurses := true, plainKeys := false, apart := false }
def TileLayoutsSaid : Prop := tileLayoutsRow.holds Try.pinned (OpenSpec.ofChange tileLayoutsSpec)

/-- ITS FALSE NEIGHBOUR: 'it returns false'. Refute it at one input. -/
def tileLayoutsWrong : ChangeSpec := { name := "tileLayouts", fn := fun _ => fun
  | [d1, d2] => { results := [.lit (.bool false)], args := [d1, d2] }
  | _ => none }
def TileLayoutsWrongFalsely : Prop := tileLayoutsRow.holds Try.pinned (OpenSpec.ofChange tileLayoutsWrong)

/-- 'lidarlaw08.TileOrder': WHATEVER THE INPUT: true; the input reads as it did. -/
def tileOrderSpec : ChangeSpec := { name := "tileOrder", fn := fun _ => fun
  | [d1, d2, d3] => { results := [.lit (.bool true)], args := [d1, d2, d3] }
  | _ => none }
def tileOrderRow : OpenClaim := { program := "yteanlcefdoigcaa", sum := "b6a5529158a73bd4ac08896856408286965e55ab6e743639ab018ad5f2d3df12", func := "lidar/lidarlaw08.TileOrder", spec := "tileOrder", unfollowed := true, recurses := true, plainKeys := false, apart := false }
def TileOrderSaid : Prop := tileOrderRow.holds Try.pinned (OpenSpec.ofChange tileOrderSpec)

/-- ITS FALSE NEIGHBOUR: 'it returns false'. Refute it at one input. -/
def tileOrderWrong : ChangeSpec := { name := "tileOrder", fn := fun _ => fun
  | [d1, d2, d3] => { results := [.lit (.bool false)], args := [d1, d2, d3] }
  | _ => none }
def TileOrderWrongFalsely : Prop := tileOrderRow.holds Try.pinned (OpenSpec.ofChange tileOrderWrong)

/-- 'lidarlaw08.TileCells': WHATEVER THE INPUT: true; the input reads as it did. -/
def tileCellsSpec : ChangeSpec := { name := "tileCells", fn := fun _ => fun
  | [d1, d2, d3] => { results := [.lit (.bool true)], args := [d1, d2, d3] }
  | _ => none }
def tileCellsRow : OpenClaim := { program := "yteanlcefdoigcaa", sum := "b6a5529158a73bd4ac08896856408286965e55ab6e743639ab018ad5f2d3df12", func := "lidar/lidarlaw08.TileCells", spec := "tileCells", unfollowed := true, recurses := true, plainKeys := false, apart := false }
def TileCellsSaid : Prop := tileCellsRow.holds Try.pinned (OpenSpec.ofChange tileCellsSpec)

/-- ITS FALSE NEIGHBOUR: 'it returns false'. Refute it at one input. -/
def tileCellsWrong : ChangeSpec := { name := "tileCells", fn := fun _ => fun
  | [d1, d2, d3] => { results := [.lit (.bool false)], args := [d1, d2, d3] }
  | _ => none }
def TileCellsWrongFalsely : Prop := tileCellsRow.holds Try.pinned (OpenSpec.ofChange tileCellsWrong)

/-- 'lidarlaw08.TileLevels': WHATEVER THE INPUT: true; the input reads as it did. -/
def tileLevelsSpec : ChangeSpec := { name := "tileLevels", fn := fun _ => fun
  | [d1, d2] => { results := [.lit (.bool true)], args := [d1, d2] }
  | _ => none }
def tileLevelsRow : OpenClaim := { program := "yteanlcefdoigcaa", sum := "b6a5529158a73bd4ac08896856408286965e55ab6e743639ab018ad5f2d3df12", func := "lidar/lidarlaw08.TileLevels", spec := "tileLevels", unfollowed := true, recurses := true, plainKeys := false, apart := false }
def TileLevelsSaid : Prop := tileLevelsRow.holds Try.pinned (OpenSpec.ofChange tileLevelsSpec)

/-- ITS FALSE NEIGHBOUR: 'it returns false'. Refute it at one input. -/
def tileLevelsWrong : ChangeSpec := { name := "tileLevels", fn := fun _ => fun
  | [d1, d2] => { results := [.lit (.bool false)], args := [d1, d2] }
  | _ => none }
def TileLevelsWrongFalsely : Prop := tileLevelsRow.holds Try.pinned (OpenSpec.ofChange tileLevelsWrong)

/-- 'lidarlaw08.TileMany': WHATEVER THE INPUT: true; the input reads as it did. -/
def tileManySpec : ChangeSpec := { name := "tileMany", fn := fun _ => fun
  | [d1, d2] => { results := [.lit (.bool true)], args := [d1, d2] }
  | _ => none }
def tileManyRow : OpenClaim := { program := "yteanlcefdoigcaa", sum := "b6a5529158a73bd4ac08896856408286965e55ab6e743639ab018ad5f2d3df12", func := "lidar/lidarlaw08.TileMany", spec := "tileMany", unfollowed := true, recurses := true, plainKeys := false, apart := false }
def TileManySaid : Prop := tileManyRow.holds Try.pinned (OpenSpec.ofChange tileManySpec)

/-- ITS FALSE NEIGHBOUR: 'it returns false'. Refute it at one input. -/
def tileManyWrong : ChangeSpec := { name := "tileMany", fn := fun _ => fun
  | [d1, d2] => { results := [.lit (.bool false)], args := [d1, d2] }
  | _ => none }
def TileManyWrongFalsely : Prop := tileManyRow.holds Try.pinned (OpenSpec.ofChange tileManyWrong)

/-- 'lidarlaw08.TileUpdates': WHATEVER THE INPUT: true; the input reads as it did. -/
def tileUpdatesSpec : ChangeSpec := { name := "tileUpdates", fn := fun _ => fun
  | [d1, d2, d3] => { results := [.lit (.bool true)], args := [d1, d2, d3] }
  | _ => none }
def tileUpdatesRow : OpenClaim := { program := "yteanlcefdoigcaa", sum := "b6a5529158a73bd4ac08896856408286965e55ab6e743639ab018ad5f2d3df12", func := "lidar/lidarlaw08.TileUpdates", spec := "tileUpdates", unfollowed := true, recurses := true, plainKeys := false, apart := false }
def TileUpdatesSaid : Prop := tileUpdatesRow.holds Try.pinned (OpenSpec.ofChange tileUpdatesSpec)

/-- ITS FALSE NEIGHBOUR: 'it returns false'. Refute it at one input. -/
def tileUpdatesWrong : ChangeSpec := { name := "tileUpdates", fn := fun _ => fun
  | [d1, d2, d3] => { results := [.lit (.bool false)], args := [d1, d2, d3] }
  | _ => none }
def TileUpdatesWrongFalsely : Prop := tileUpdatesRow.holds Try.pinned (OpenSpec.ofChange tileUpdatesWrong)

/-- 'lidarlaw08.TileAffected': WHATEVER THE INPUT: true; the input reads as it did. -/
def tileAffectedSpec : ChangeSpec := { name := "tileAffected", fn := fun _ => fun
  | [d1, d2, d3] => { results := [.lit (.bool true)], args := [d1, d2, d3] }
  | _ => none }
def tileAffectedRow : OpenClaim := { program := "yteanlcefdoigcaa", sum := "b6a5529158a73bd4ac08896856408286965e55ab6e743639ab018ad5f2d3df12", func := "lidar/lidarlaw08.TileAffected", spec := "tileAffected", unfollowed := true, recurses := true, plainKeys := false, apart := false }
def TileAffectedSaid : Prop := tileAffectedRow.holds Try.pinned (OpenSpec.ofChange tileAffectedSpec)

/-- ITS FALSE NEIGHBOUR: 'it returns false'. Refute it at one input. -/
def tileAffectedWrong : ChangeSpec := { name := "tileAffected", fn := fun _ => fun
  | [d1, d2, d3] => { results := [.lit (.bool false)], args := [d1, d2, d3] }
  | _ => none }
def TileAffectedWrongFalsely : Prop := tileAffectedRow.holds Try.pinned (OpenSpec.ofChange tileAffectedWrong)

/-- 'lidarlaw08.TileDisk': WHATEVER THE INPUT: true; the input reads as it did. -/
def tileDiskSpec : ChangeSpec := { name := "tileDisk", fn := fun _ => fun
  | [d] => { results := [.lit (.bool true)], args := [d] }
  | _ => none }
def tileDiskRow : OpenClaim := { program := "yteanlcefdoigcaa", sum := "b6a5529158a73bd4ac08896856408286965e55ab6e743639ab018ad5f2d3df12", func := "lidar/lidarlaw08.TileDisk", spec := "tileDisk", unfollowed := true, recurses := true, plainKeys := false, apart := false }
def TileDiskSaid : Prop := tileDiskRow.holds Try.pinned (OpenSpec.ofChange tileDiskSpec)

/-- ITS FALSE NEIGHBOUR: 'it returns false'. Refute it at one input. -/
def tileDiskWrong : ChangeSpec := { name := "tileDisk", fn := fun _ => fun
  | [d] => { results := [.lit (.bool false)], args := [d] }
  | _ => none }
def TileDiskWrongFalsely : Prop := tileDiskRow.holds Try.pinned (OpenSpec.ofChange tileDiskWrong)

/-- 'lidarlaw08.TileDetails': WHATEVER THE INPUT: true; the input reads as it did. -/
def tileDetailsSpec : ChangeSpec := { name := "tileDetails", fn := fun _ => fun
  | [d1, d2, d3] => { results := [.lit (.bool true)], args := [d1, d2, d3] }
  | _ => none }
def tileDetailsRow : OpenClaim := { program := "yteanlcefdoigcaa", sum := "b6a5529158a73bd4ac08896856408286965e55ab6e743639ab018ad5f2d3df12", func := "lidar/lidarlaw08.TileDetails", spec := "tileDetails", unfollowed := true, recurses := true, plainKeys := false, apart := false }
def TileDetailsSaid : Prop := tileDetailsRow.holds Try.pinned (OpenSpec.ofChange tileDetailsSpec)

/-- ITS FALSE NEIGHBOUR: 'it returns false'. Refute it at one input. -/
def tileDetailsWrong : ChangeSpec := { name := "tileDetails", fn := fun _ => fun
  | [d1, d2, d3] => { results := [.lit (.bool false)], args := [d1, d2, d3] }
  | _ => none }
def TileDetailsWrongFalsely : Prop := tileDetailsRow.holds Try.pinned (OpenSpec.ofChange tileDetailsWrong)

/-- 'lidarlaw08.TileDecodes': WHATEVER THE INPUT: true; the input reads as it did. -/
def tileDecodesSpec : ChangeSpec := { name := "tileDecodes", fn := fun _ => fun
  | [d] => { results := [.lit (.bool true)], args := [d] }
  | _ => none }
def tileDecodesRow : OpenClaim := { program := "yteanlcefdoigcaa", sum := "b6a5529158a73bd4ac08896856408286965e55ab6e743639ab018ad5f2d3df12", func := "lidar/lidarlaw08.TileDecodes", spec := "tileDecodes", unfollowed := true, recurses := true, plainKeys := false, apart := false }
def TileDecodesSaid : Prop := tileDecodesRow.holds Try.pinned (OpenSpec.ofChange tileDecodesSpec)

/-- ITS FALSE NEIGHBOUR: 'it returns false'. Refute it at one input. -/
def tileDecodesWrong : ChangeSpec := { name := "tileDecodes", fn := fun _ => fun
  | [d] => { results := [.lit (.bool false)], args := [d] }
  | _ => none }
def TileDecodesWrongFalsely : Prop := tileDecodesRow.holds Try.pinned (OpenSpec.ofChange tileDecodesWrong)

/-- 'lidarlaw08.TileEncodes': WHATEVER THE INPUT: true; the input reads as it did. -/
def tileEncodesSpec : ChangeSpec := { name := "tileEncodes", fn := fun _ => fun
  | [d1, d2, d3] => { results := [.lit (.bool true)], args := [d1, d2, d3] }
  | _ => none }
def tileEncodesRow : OpenClaim := { program := "yteanlcefdoigcaa", sum := "b6a5529158a73bd4ac08896856408286965e55ab6e743639ab018ad5f2d3df12", func := "lidar/lidarlaw08.TileEncodes", spec := "tileEncodes", unfollowed := true, recurses := true, plainKeys := false, apart := false }
def TileEncodesSaid : Prop := tileEncodesRow.holds Try.pinned (OpenSpec.ofChange tileEncodesSpec)

/-- ITS FALSE NEIGHBOUR: 'it returns false'. Refute it at one input. -/
def tileEncodesWrong : ChangeSpec := { name := "tileEncodes", fn := fun _ => fun
  | [d1, d2, d3] => { results := [.lit (.bool false)], args := [d1, d2, d3] }
  | _ => none }
def TileEncodesWrongFalsely : Prop := tileEncodesRow.holds Try.pinned (OpenSpec.ofChange tileEncodesWrong)

/- THE SECOND FORM. 'bulk': how many values and letters a reading holds, each counted each time it is reached (what is shared counts as often as it is met; a slice's spare places count too). A statement '..UptoSaid' is the law's where the arguments, and the package variables that the reading takes, are together of bulk at most 1048576: NARROWER than '..Said'. Prove '..Said' where nothing that the law and all that it calls make is longer than what came in: it says more and counts as full. Else prove '..UptoSaid'. A law counts once. -/
mutual
def uptoBulk {H : Type} : DataW H → Nat
  | .lit (.string bytes) => bytes.length + 1
  | .lit _ => 1
  | .nil => 1
  | .ptr d => uptoBulk d + 1
  | .slice elems spare => uptoBulkAll elems + uptoBulkAll spare + 1
  | .agg parts => uptoBulkAll parts + 1
  | .iface _ d => uptoBulk d + 1
  | .map entries => uptoBulkEntries entries + 1
  | .held _ => 1
def uptoBulkAll {H : Type} : List (DataW H) → Nat
  | [] => 0
  | d :: r => uptoBulk d + uptoBulkAll r
def uptoBulkEntries {H : Type} : List (Lit × DataW H) → Nat
  | [] => 0
  | x :: r => uptoBulkEntry x + uptoBulkEntries r
def uptoBulkEntry {H : Type} : Lit × DataW H → Nat
  | (.string bytes, d) => bytes.length + uptoBulk d + 1
  | (_, d) => uptoBulk d + 1
 end
def uptoSmall : (H : Type) → List (DataW H) → Bool := fun _ ds => decide (uptoBulkAll ds ≤ 1048576)
def OpenSpec.upto (s : _root_.Go.ChangeSpec) : _root_.Go.OpenSpec := { _root_.Go.OpenSpec.ofChange s with cond := some uptoSmall }

/-- 'lidarlaw08.TileLayouts', WHERE WHAT IT READS IS OF BULK AT MOST 1048576: true; the input reads as it did. -/
def tileLayoutsUptoRow : OpenClaim := { program := "yteanlcefdoigcaa", sum := "b6a5529158a73bd4ac08896856408286965e55ab6e743639ab018ad5f2d3df12", func := "lidar/lidarlaw08.TileLayouts", spec := "tileLayouts", unfollowed := true, recurses := true, plainKeys := false, apart := false, narrowed := true }
def TileLayoutsUptoSaid : Prop := tileLayoutsUptoRow.holds Try.pinned (OpenSpec.upto tileLayoutsSpec)

/-- 'lidarlaw08.TileOrder', WHERE WHAT IT READS IS OF BULK AT MOST 1048576: true; the input reads as it did. -/
def tileOrderUptoRow : OpenClaim := { program := "yteanlcefdoigcaa", sum := "b6a5529158a73bd4ac08896856408286965e55ab6e743639ab018ad5f2d3df12", func := "lidar/lidarlaw08.TileOrder", spec := "tileOrder", unfollowed := true, recurses := true, plainKeys := false, apart := false, narrowed := true }
def TileOrderUptoSaid : Prop := tileOrderUptoRow.holds Try.pinned (OpenSpec.upto tileOrderSpec)

/-- 'lidarlaw08.TileCells', WHERE WHAT IT READS IS OF BULK AT MOST 1048576: true; the input reads as it did. -/
def tileCellsUptoRow : OpenClaim := { program := "yteanlcefdoigcaa", sum := "b6a5529158a73bd4ac08896856408286965e55ab6e743639ab018ad5f2d3df12", func := "lidar/lidarlaw08.TileCells", spec := "tileCells", unfollowed := true, recurses := true, plainKeys := false, apart := false, narrowed := true }
def TileCellsUptoSaid : Prop := tileCellsUptoRow.holds Try.pinned (OpenSpec.upto tileCellsSpec)

/-- 'lidarlaw08.TileLevels', WHERE WHAT IT READS IS OF BULK AT MOST 1048576: true; the input reads as it did. -/
def tileLevelsUptoRow : OpenClaim := { program := "yteanlcefdoigcaa", sum := "b6a5529158a73bd4ac08896856408286965e55ab6e743639ab018ad5f2d3df12", func := "lidar/lidarlaw08.TileLevels", spec := "tileLevels", unfollowed := true, recurses := true, plainKeys := false, apart := false, narrowed := true }
def TileLevelsUptoSaid : Prop := tileLevelsUptoRow.holds Try.pinned (OpenSpec.upto tileLevelsSpec)

/-- 'lidarlaw08.TileMany', WHERE WHAT IT READS IS OF BULK AT MOST 1048576: true; the input reads as it did. -/
def tileManyUptoRow : OpenClaim := { program := "yteanlcefdoigcaa", sum := "b6a5529158a73bd4ac08896856408286965e55ab6e743639ab018ad5f2d3df12", func := "lidar/lidarlaw08.TileMany", spec := "tileMany", unfollowed := true, recurses := true, plainKeys := false, apart := false, narrowed := true }
def TileManyUptoSaid : Prop := tileManyUptoRow.holds Try.pinned (OpenSpec.upto tileManySpec)

/-- 'lidarlaw08.TileUpdates', WHERE WHAT IT READS IS OF BULK AT MOST 1048576: true; the input reads as it did. -/
def tileUpdatesUptoRow : OpenClaim := { program := "yteanlcefdoigcaa", sum := "b6a5529158a73bd4ac08896856408286965e55ab6e743639ab018ad5f2d3df12", func := "lidar/lidarlaw08.TileUpdates", spec := "tileUpdates", unfollowed := true, recurses := true, plainKeys := false, apart := false, narrowed := true }
def TileUpdatesUptoSaid : Prop := tileUpdatesUptoRow.holds Try.pinned (OpenSpec.upto tileUpdatesSpec)

/-- 'lidarlaw08.TileAffected', WHERE WHAT IT READS IS OF BULK AT MOST 1048576: true; the input reads as it did. -/
def tileAffectedUptoRow : OpenClaim := { program := "yteanlcefdoigcaa", sum := "b6a5529158a73bd4ac08896856408286965e55ab6e743639ab018ad5f2d3df12", func := "lidar/lidarlaw08.TileAffected", spec := "tileAffected", unfollowed := true, recurses := true, plainKeys := false, apart := false, narrowed := true }
def TileAffectedUptoSaid : Prop := tileAffectedUptoRow.holds Try.pinned (OpenSpec.upto tileAffectedSpec)

/-- 'lidarlaw08.TileDisk', WHERE WHAT IT READS IS OF BULK AT MOST 1048576: true; the input reads as it did. -/
def tileDiskUptoRow : OpenClaim := { program := "yteanlcefdoigcaa", sum := "b6a5529158a73bd4ac08896856408286965e55ab6e743639ab018ad5f2d3df12", func := "lidar/lidarlaw08.TileDisk", spec := "tileDisk", unfollowed := true, recurses := true, plainKeys := false, apart := false, narrowed := true }
def TileDiskUptoSaid : Prop := tileDiskUptoRow.holds Try.pinned (OpenSpec.upto tileDiskSpec)

/-- 'lidarlaw08.TileDetails', WHERE WHAT IT READS IS OF BULK AT MOST 1048576: true; the input reads as it did. -/
def tileDetailsUptoRow : OpenClaim := { program := "yteanlcefdoigcaa", sum := "b6a5529158a73bd4ac08896856408286965e55ab6e743639ab018ad5f2d3df12", func := "lidar/lidarlaw08.TileDetails", spec := "tileDetails", unfollowed := true, recurses := true, plainKeys := false, apart := false, narrowed := true }
def TileDetailsUptoSaid : Prop := tileDetailsUptoRow.holds Try.pinned (OpenSpec.upto tileDetailsSpec)

/-- 'lidarlaw08.TileDecodes', WHERE WHAT IT READS IS OF BULK AT MOST 1048576: true; the input reads as it did. -/
def tileDecodesUptoRow : OpenClaim := { program := "yteanlcefdoigcaa", sum := "b6a5529158a73bd4ac08896856408286965e55ab6e743639ab018ad5f2d3df12", func := "lidar/lidarlaw08.TileDecodes", spec := "tileDecodes", unfollowed := true, recurses := true, plainKeys := false, apart := false, narrowed := true }
def TileDecodesUptoSaid : Prop := tileDecodesUptoRow.holds Try.pinned (OpenSpec.upto tileDecodesSpec)

/-- 'lidarlaw08.TileEncodes', WHERE WHAT IT READS IS OF BULK AT MOST 1048576: true; the input reads as it did. -/
def tileEncodesUptoRow : OpenClaim := { program := "yteanlcefdoigcaa", sum := "b6a5529158a73bd4ac08896856408286965e55ab6e743639ab018ad5f2d3df12", func := "lidar/lidarlaw08.TileEncodes", spec := "tileEncodes", unfollowed := true, recurses := true, plainKeys := false, apart := false, narrowed := true }
def TileEncodesUptoSaid : Prop := tileEncodesUptoRow.holds Try.pinned (OpenSpec.upto tileEncodesSpec)

end Rows
end Go.Proofs.Yteanlcefdoigcaa
