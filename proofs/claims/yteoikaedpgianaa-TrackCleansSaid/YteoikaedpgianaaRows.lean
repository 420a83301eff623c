/-
  No cell of these rows narrows 'for every input' (looked for: loops, veiled, ifaces, maps, wideKeys, modest, calm, conditions, laid).
  DERIVED. THE GIVEN ROWS OF THIS SEAT. 17 by the template 'for every input the law returns true; each argument reads behind the call as it read before'; 0 by the template 'total and deterministic' (their statements: YteoikaedpgianaaTotals.lean).
  GIVEN WITH THE SEED: the statements are not yours to turn. If you find one false, say at which input.
  Laid BY PROGRAM, IN A SANDBOX (cutbox-rows.mjs): the forced cells as the released guide's own fill.sh prints them over the translation bc8204ad1bdaaebe… (all of the seat's roots in one cut). By AI agents, Wed Nov 11 2026. No macro, syntax, notation, axiom, sorry.
-/
import Derived.Test.YteoikaedpgianaaChecked
import GoSem.Claim
import GoSem.ClaimJoined
import GoSem.ClaimMapViews
import Derived.JoinedTies
import Derived.KernelRfl
namespace Go.Proofs.Yteoikaedpgianaa
/- THE CELL 'sum', in the pinned program and in every row, IS THE sha256 OF THE DUMP (.gsa) THAT YteoikaedpgianaaProg.lean LOADS. Nothing in Lean hashes anything: it is a label: what it is worth is what the hold of that sum in a sandbox is worth. -/
noncomputable def Try.pinned : Pinned := { name := "yteoikaedpgianaa", sum := "bc8204ad1bdaaebe648c924966214feb56284f16a617f497de1c749ee64fd884", checked := Try.checked }
namespace Rows
def none {H : Type} : Left H := { results := [], args := [] }

/-- 'lidarlaw04.TrackTurns': WHATEVER THE INPUT: true; the input reads as it did. -/
def trackTurnsSpec : ChangeSpec := { name := "trackTurns", fn := fun _ => fun
  | [d1, d2] => { results := [.lit (.bool true)], args := [d1, d2] }
  | _ => none }
def trackTurnsRow : OpenClaim := { program := "yteoikaedpgianaa", sum := "bc8204ad1bdaaebe648c924966214feb56284f16a617f497de1c749ee64fd884", func := "lidar/lidarlaw04.TrackTurns", spec := "trackTurns", apart := false }
def TrackTurnsSaid : Prop := trackTurnsRow.holds Try.pinned (OpenSpec.ofChange trackTurnsSpec)

/-- ITS FALSE NEIGHBOUR: 'it returns false'. Refute it at one input. -/
def trackTurnsWrong : ChangeSpec := { name := "trackTurns", fn := fun _ => fun
  | [d1, d2] => { results := [.lit (.bool false)], args := [d1, d2] }
  | _ => none }
def TrackTurnsWrongFalsely : Prop := trackTurnsRow.holds Try.pinned (OpenSpec.ofChange trackTurnsWrong)

/-- 'lidarlaw04.TrackBeams': WHATEVER THE INPUT: true; the input reads as it did. -/
def trackBeamsSpec : ChangeSpec := { name := "trackBeams", fn := fun _ => fun
  | [d1, d2, d3] => { results := [.lit (.bool true)], args := [d1, d2, d3] }
  | _ => none }
def trackBeamsRow : OpenClaim := { program := "yteoikaedpgianaa", sum := "bc8204ad1bdaaebe648c924966214feb56284f16a617f497de1c749ee64fd884", func := "lidar/lidarlaw04.TrackBeams", spec := "trackBeams", apart := false }
def TrackBeamsSaid : Prop := trackBeamsRow.holds Try.pinned (OpenSpec.ofChange trackBeamsSpec)

/-- ITS FALSE NEIGHBOUR: 'it returns false'. Refute it at one input. -/
def trackBeamsWrong : ChangeSpec := { name := "trackBeams", fn := fun _ => fun
  | [d1, d2, d3] => { results := [.lit (.bool false)], args := [d1, d2, d3] }
  | _ => none }
def TrackBeamsWrongFalsely : Prop := trackBeamsRow.holds Try.pinned (OpenSpec.ofChange trackBeamsWrong)

/-- 'lidarlaw04.TrackInside': WHATEVER THE INPUT: true; the input reads as it did. -/
def trackInsideSpec : ChangeSpec := { name := "trackInside", fn := fun _ => fun
  | [d1, d2, d3] => { results := [.lit (.bool true)], args := [d1, d2, d3] }
  | _ => none }
def trackInsideRow : OpenClaim := { program := "yteoikaedpgianaa", sum := "bc8204ad1bdaaebe648c924966214feb56284f16a617f497de1c749ee64fd884", func := "lidar/lidarlaw04.TrackInside", spec := "trackInside", apart := false }
def TrackInsideSaid : Prop := trackInsideRow.holds Try.pinned (OpenSpec.ofChange trackInsideSpec)

/-- ITS FALSE NEIGHBOUR: 'it returns false'. Refute it at one input. -/
def trackInsideWrong : ChangeSpec := { name := "trackInside", fn := fun _ => fun
  | [d1, d2, d3] => { results := [.lit (.bool false)], args := [d1, d2, d3] }
  | _ => none }
def TrackInsideWrongFalsely : Prop := trackInsideRow.holds Try.pinned (OpenSpec.ofChange trackInsideWrong)

/-- 'lidarlaw04.TrackTimes': WHATEVER THE INPUT: true; the input reads as it did. -/
def trackTimesSpec : ChangeSpec := { name := "trackTimes", fn := fun _ => fun
  | [d1, d2] => { results := [.lit (.bool true)], args := [d1, d2] }
  | _ => none }
def trackTimesRow : OpenClaim := { program := "yteoikaedpgianaa", sum := "bc8204ad1bdaaebe648c924966214feb56284f16a617f497de1c749ee64fd884", func := "lidar/lidarlaw04.TrackTimes", spec := "trackTimes", apart := false }
def TrackTimesSaid : Prop := trackTimesRow.holds Try.pinned (OpenSpec.ofChange trackTimesSpec)

/-- ITS FALSE NEIGHBOUR: 'it returns false'. Refute it at one input. -/
def trackTimesWrong : ChangeSpec := { name := "trackTimes", fn := fun _ => fun
  | [d1, d2] => { results := [.lit (.bool false)], args := [d1, d2] }
  | _ => none }
def TrackTimesWrongFalsely : Prop := trackTimesRow.holds Try.pinned (OpenSpec.ofChange trackTimesWrong)

/-- 'lidarlaw04.TrackRules': WHATEVER THE INPUT: true; the input reads as it did. -/
def trackRulesSpec : ChangeSpec := { name := "trackRules", fn := fun _ => fun
  | [d1, d2, d3] => { results := [.lit (.bool true)], args := [d1, d2, d3] }
  | _ => none }
def trackRulesRow : OpenClaim := { program := "yteoikaedpgianaa", sum := "bc8204ad1bdaaebe648c924966214feb56284f16a617f497de1c749ee64fd884", func := "lidar/lidarlaw04.TrackRules", spec := "trackRules", apart := false }
def TrackRulesSaid : Prop := trackRulesRow.holds Try.pinned (OpenSpec.ofChange trackRulesSpec)

/-- ITS FALSE NEIGHBOUR: 'it returns false'. Refute it at one input. -/
def trackRulesWrong : ChangeSpec := { name := "trackRules", fn := fun _ => fun
  | [d1, d2, d3] => { results := [.lit (.bool false)], args := [d1, d2, d3] }
  | _ => none }
def TrackRulesWrongFalsely : Prop := trackRulesRow.holds Try.pinned (OpenSpec.ofChange trackRulesWrong)

/-- 'lidarlaw04.TrackDecodes': WHATEVER THE INPUT: true; the input reads as it did. -/
def trackDecodesSpec : ChangeSpec := { name := "trackDecodes", fn := fun _ => fun
  | [d] => { results := [.lit (.bool true)], args := [d] }
  | _ => none }
def trackDecodesRow : OpenClaim := { program := "yteoikaedpgianaa", sum := "bc8204ad1bdaaebe648c924966214feb56284f16a617f497de1c749ee64fd884", func := "lidar/lidarlaw04.TrackDecodes", spec := "trackDecodes", apart := false }
def TrackDecodesSaid : Prop := trackDecodesRow.holds Try.pinned (OpenSpec.ofChange trackDecodesSpec)

/-- ITS FALSE NEIGHBOUR: 'it returns false'. Refute it at one input. -/
def trackDecodesWrong : ChangeSpec := { name := "trackDecodes", fn := fun _ => fun
  | [d] => { results := [.lit (.bool false)], args := [d] }
  | _ => none }
def TrackDecodesWrongFalsely : Prop := trackDecodesRow.holds Try.pinned (OpenSpec.ofChange trackDecodesWrong)

/-- 'lidarlaw04.TrackNears': WHATEVER THE INPUT: true; the input reads as it did. -/
def trackNearsSpec : ChangeSpec := { name := "trackNears", fn := fun _ => fun
  | [d1, d2, d3] => { results := [.lit (.bool true)], args := [d1, d2, d3] }
  | _ => none }
def trackNearsRow : OpenClaim := { program := "yteoikaedpgianaa", sum := "bc8204ad1bdaaebe648c924966214feb56284f16a617f497de1c749ee64fd884", func := "lidar/lidarlaw04.TrackNears", spec := "trackNears", named := ["math/bits.divideError", "math/bits.overflowError"], apart := false }
def TrackNearsSaid : Prop := trackNearsRow.holds Try.pinned (OpenSpec.ofChange trackNearsSpec)

/-- ITS FALSE NEIGHBOUR: 'it returns false'. Refute it at one input. -/
def trackNearsWrong : ChangeSpec := { name := "trackNears", fn := fun _ => fun
  | [d1, d2, d3] => { results := [.lit (.bool false)], args := [d1, d2, d3] }
  | _ => none }
def TrackNearsWrongFalsely : Prop := trackNearsRow.holds Try.pinned (OpenSpec.ofChange trackNearsWrong)

/-- 'lidarlaw04.TrackLocates': WHATEVER THE INPUT: true; the input reads as it did. -/
def trackLocatesSpec : ChangeSpec := { name := "trackLocates", fn := fun _ => fun
  | [d1, d2, d3] => { results := [.lit (.bool true)], args := [d1, d2, d3] }
  | _ => none }
def trackLocatesRow : OpenClaim := { program := "yteoikaedpgianaa", sum := "bc8204ad1bdaaebe648c924966214feb56284f16a617f497de1c749ee64fd884", func := "lidar/lidarlaw04.TrackLocates", spec := "trackLocates", recurses := true, named := ["math/bits.divideError", "math/bits.overflowError"], apart := false }
def TrackLocatesSaid : Prop := trackLocatesRow.holds Try.pinned (OpenSpec.ofChange trackLocatesSpec)

/-- ITS FALSE NEIGHBOUR: 'it returns false'. Refute it at one input. -/
def trackLocatesWrong : ChangeSpec := { name := "trackLocates", fn := fun _ => fun
  | [d1, d2, d3] => { results := [.lit (.bool false)], args := [d1, d2, d3] }
  | _ => none }
def TrackLocatesWrongFalsely : Prop := trackLocatesRow.holds Try.pinned (OpenSpec.ofChange trackLocatesWrong)

/-- 'lidarlaw04.TrackEncodes': WHATEVER THE INPUT: true; the input reads as it did. -/
def trackEncodesSpec : ChangeSpec := { name := "trackEncodes", fn := fun _ => fun
  | [d] => { results := [.lit (.bool true)], args := [d] }
  | _ => none }
def trackEncodesRow : OpenClaim := { program := "yteoikaedpgianaa", sum := "bc8204ad1bdaaebe648c924966214feb56284f16a617f497de1c749ee64fd884", func := "lidar/lidarlaw04.TrackEncodes", spec := "trackEncodes", apart := false }
def TrackEncodesSaid : Prop := trackEncodesRow.holds Try.pinned (OpenSpec.ofChange trackEncodesSpec)

/-- ITS FALSE NEIGHBOUR: 'it returns false'. Refute it at one input. -/
def trackEncodesWrong : ChangeSpec := { name := "trackEncodes", fn := fun _ => fun
  | [d] => { results := [.lit (.bool false)], args := [d] }
  | _ => none }
def TrackEncodesWrongFalsely : Prop := trackEncodesRow.holds Try.pinned (OpenSpec.ofChange trackEncodesWrong)

/-- 'lidarlaw04.TrackPlaces': WHATEVER THE INPUT: true; the input reads as it did. -/
def trackPlacesSpec : ChangeSpec := { name := "trackPlaces", fn := fun _ => fun
  | [d] => { results := [.lit (.bool true)], args := [d] }
  | _ => none }
def trackPlacesRow : OpenClaim := { program := "yteoikaedpgianaa", sum := "bc8204ad1bdaaebe648c924966214feb56284f16a617f497de1c749ee64fd884", func := "lidar/lidarlaw04.TrackPlaces", spec := "trackPlaces", recurses := true, named := ["math/bits.divideError", "math/bits.overflowError"], apart := false }
def TrackPlacesSaid : Prop := trackPlacesRow.holds Try.pinned (OpenSpec.ofChange trackPlacesSpec)

/-- ITS FALSE NEIGHBOUR: 'it returns false'. Refute it at one input. -/
def trackPlacesWrong : ChangeSpec := { name := "trackPlaces", fn := fun _ => fun
  | [d] => { results := [.lit (.bool false)], args := [d] }
  | _ => none }
def TrackPlacesWrongFalsely : Prop := trackPlacesRow.holds Try.pinned (OpenSpec.ofChange trackPlacesWrong)

/-- 'lidarlaw04.TrackOffsets': WHATEVER THE INPUT: true; the input reads as it did. -/
def trackOffsetsSpec : ChangeSpec := { name := "trackOffsets", fn := fun _ => fun
  | [d1, d2] => { results := [.lit (.bool true)], args := [d1, d2] }
  | _ => none }
def trackOffsetsRow : OpenClaim := { program := "yteoikaedpgianaa", sum := "bc8204ad1bdaaebe648c924966214feb56284f16a617f497de1c749ee64fd884", func := "lidar/lidarlaw04.TrackOffsets", spec := "trackOffsets", unfollowed := true, recurses := true, apart := false }
def TrackOffsetsSaid : Prop := trackOffsetsRow.holds Try.pinned (OpenSpec.ofChange trackOffsetsSpec)

/-- ITS FALSE NEIGHBOUR: 'it returns false'. Refute it at one input. -/
def trackOffsetsWrong : ChangeSpec := { name := "trackOffsets", fn := fun _ => fun
  | [d1, d2] => { results := [.lit (.bool false)], args := [d1, d2] }
  | _ => none }
def TrackOffsetsWrongFalsely : Prop := trackOffsetsRow.holds Try.pinned (OpenSpec.ofChange trackOffsetsWrong)

/-- 'lidarlaw04.TrackMoves': WHATEVER THE INPUT: true; the input reads as it did. -/
def trackMovesSpec : ChangeSpec := { name := "trackMoves", fn := fun _ => fun
  | [d] => { results := [.lit (.bool true)], args := [d] }
  | _ => none }
def trackMovesRow : OpenClaim := { program := "yteoikaedpgianaa", sum := "bc8204ad1bdaaebe648c924966214feb56284f16a617f497de1c749ee64fd884", func := "lidar/lidarlaw04.TrackMoves", spec := "trackMoves", named := ["math/bits.divideError", "math/bits.overflowError"], apart := false }
def TrackMovesSaid : Prop := trackMovesRow.holds Try.pinned (OpenSpec.ofChange trackMovesSpec)

/-- ITS FALSE NEIGHBOUR: 'it returns false'. Refute it at one input. -/
def trackMovesWrong : ChangeSpec := { name := "trackMoves", fn := fun _ => fun
  | [d] => { results := [.lit (.bool false)], args := [d] }
  | _ => none }
def TrackMovesWrongFalsely : Prop := trackMovesRow.holds Try.pinned (OpenSpec.ofChange trackMovesWrong)

/-- 'lidarlaw04.TrackClocks': WHATEVER THE INPUT: true; the input reads as it did. -/
def trackClocksSpec : ChangeSpec := { name := "trackClocks", fn := fun _ => fun
  | [d1, d2] => { results := [.lit (.bool true)], args := [d1, d2] }
  | _ => none }
def trackClocksRow : OpenClaim := { program := "yteoikaedpgianaa", sum := "bc8204ad1bdaaebe648c924966214feb56284f16a617f497de1c749ee64fd884", func := "lidar/lidarlaw04.TrackClocks", spec := "trackClocks", unfollowed := true, recurses := true, apart := false }
def TrackClocksSaid : Prop := trackClocksRow.holds Try.pinned (OpenSpec.ofChange trackClocksSpec)

/-- ITS FALSE NEIGHBOUR: 'it returns false'. Refute it at one input. -/
def trackClocksWrong : ChangeSpec := { name := "trackClocks", fn := fun _ => fun
  | [d1, d2] => { results := [.lit (.bool false)], args := [d1, d2] }
  | _ => none }
def TrackClocksWrongFalsely : Prop := trackClocksRow.holds Try.pinned (OpenSpec.ofChange trackClocksWrong)

/-- 'lidarlaw04.TrackPoses': WHATEVER THE INPUT: true; the input reads as it did. -/
def trackPosesSpec : ChangeSpec := { name := "trackPoses", fn := fun _ => fun
  | [d1, d2, d3] => { results := [.lit (.bool true)], args := [d1, d2, d3] }
  | _ => none }
def trackPosesRow : OpenClaim := { program := "yteoikaedpgianaa", sum := "bc8204ad1bdaaebe648c924966214feb56284f16a617f497de1c749ee64fd884", func := "lidar/lidarlaw04.TrackPoses", spec := "trackPoses", named := ["math/bits.divideError", "math/bits.overflowError"], apart := false }
def TrackPosesSaid : Prop := trackPosesRow.holds Try.pinned (OpenSpec.ofChange trackPosesSpec)

/-- ITS FALSE NEIGHBOUR: 'it returns false'. Refute it at one input. -/
def trackPosesWrong : ChangeSpec := { name := "trackPoses", fn := fun _ => fun
  | [d1, d2, d3] => { results := [.lit (.bool false)], args := [d1, d2, d3] }
  | _ => none }
def TrackPosesWrongFalsely : Prop := trackPosesRow.holds Try.pinned (OpenSpec.ofChange trackPosesWrong)

/-- 'lidarlaw04.TrackCleans': WHATEVER THE INPUT: true; the input reads as it did. -/
def trackCleansSpec : ChangeSpec := { name := "trackCleans", fn := fun _ => fun
  | [d1, d2] => { results := [.lit (.bool true)], args := [d1, d2] }
  | _ => none }
def trackCleansRow : OpenClaim := { program := "yteoikaedpgianaa", sum := "bc8204ad1bdaaebe648c924966214feb56284f16a617f497de1c749ee64fd884", func := "lidar/lidarlaw04.TrackCleans", spec := "trackCleans", unfollowed := true, recurses := true, named := ["math/bits.divideError", "math/bits.overflowError"], apart := false }
def TrackCleansSaid : Prop := trackCleansRow.holds Try.pinned (OpenSpec.ofChange trackCleansSpec)

/-- ITS FALSE NEIGHBOUR: 'it returns false'. Refute it at one input. -/
def trackCleansWrong : ChangeSpec := { name := "trackCleans", fn := fun _ => fun
  | [d1, d2] => { results := [.lit (.bool false)], args := [d1, d2] }
  | _ => none }
def TrackCleansWrongFalsely : Prop := trackCleansRow.holds Try.pinned (OpenSpec.ofChange trackCleansWrong)

/-- 'lidarlaw04.TrackMany': WHATEVER THE INPUT: true; the input reads as it did. -/
def trackManySpec : ChangeSpec := { name := "trackMany", fn := fun _ => fun
  | [d1, d2] => { results := [.lit (.bool true)], args := [d1, d2] }
  | _ => none }
def trackManyRow : OpenClaim := { program := "yteoikaedpgianaa", sum := "bc8204ad1bdaaebe648c924966214feb56284f16a617f497de1c749ee64fd884", func := "lidar/lidarlaw04.TrackMany", spec := "trackMany", unfollowed := true, recurses := true, named := ["math/bits.divideError", "math/bits.overflowError"], apart := false }
def TrackManySaid : Prop := trackManyRow.holds Try.pinned (OpenSpec.ofChange trackManySpec)

/-- ITS FALSE NEIGHBOUR: 'it returns false'. Refute it at one input. -/
def trackManyWrong : ChangeSpec := { name := "trackMany", fn := fun _ => fun
  | [d1, d2] => { results := [.lit (.bool false)], args := [d1, d2] }
  | _ => none }
def TrackManyWrongFalsely : Prop := trackManyRow.holds Try.pinned (OpenSpec.ofChange trackManyWrong)

/-- 'lidarlaw04.TrackOrder': WHATEVER THE INPUT: true; the input reads as it did. -/
def trackOrderSpec : ChangeSpec := { name := "trackOrder", fn := fun _ => fun
  | [d1, d2, d3] => { results := [.lit (.bool true)], args := [d1, d2, d3] }
  | _ => none }
def trackOrderRow : OpenClaim := { program := "yteoikaedpgianaa", sum := "bc8204ad1bdaaebe648c924966214feb56284f16a617f497de1c749ee64fd884", func := "lidar/lidarlaw04.TrackOrder", spec := "trackOrder", unfollowed := true, recurses := true, named := ["math/bits.divideError", "math/bits.overflowError"], apart := false }
def TrackOrderSaid : Prop := trackOrderRow.holds Try.pinned (OpenSpec.ofChange trackOrderSpec)

/-- ITS FALSE NEIGHBOUR: 'it returns false'. Refute it at one input. -/
def trackOrderWrong : ChangeSpec := { name := "trackOrder", fn := fun _ => fun
  | [d1, d2, d3] => { results := [.lit (.bool false)], args := [d1, d2, d3] }
  | _ => none }
def TrackOrderWrongFalsely : Prop := trackOrderRow.holds Try.pinned (OpenSpec.ofChange trackOrderWrong)

/- THE SECOND FORM. 'bulk': how many values and letters a reading holds, each counted each time it is reached (what is shared counts as often as it is met; a slice's spare places count too). A statement '..UptoSaid' is the law's where the arguments, and the package variables that the reading takes, are together of bulk at most 1048576: NARROWER than '..Said'. Prove '..Said' where nothing that the law and all that it calls make is longer than what came in: it says more and counts as full. Else prove '..UptoSaid'. A law counts once. -/
mutual
def uptoBulk {H : Type} : DataW H → Nat
  | .lit (.string bytes) => bytes.length + 1
  | .lit _ => 1
  | .nil => 1
  | .ptr d => uptoBulk d + 1
  | .slice elems spare => uptoBulkAll elems + uptoBulkAll spare + 1
  | .agg parts => uptoBulkAll parts + 1
  | .iface _ d => uptoBulk d + 1
  | .map entries => uptoBulkEntries entries + 1
  | .held _ => 1
def uptoBulkAll {H : Type} : List (DataW H) → Nat
  | [] => 0
  | d :: r => uptoBulk d + uptoBulkAll r
def uptoBulkEntries {H : Type} : List (Lit × DataW H) → Nat
  | [] => 0
  | x :: r => uptoBulkEntry x + uptoBulkEntries r
def uptoBulkEntry {H : Type} : Lit × DataW H → Nat
  | (.string bytes, d) => bytes.length + uptoBulk d + 1
  | (_, d) => uptoBulk d + 1
 end
def uptoSmall : (H : Type) → List (DataW H) → Bool := fun _ ds => decide (uptoBulkAll ds ≤ 1048576)
def OpenSpec.upto (s : _root_.Go.ChangeSpec) : _root_.Go.OpenSpec := { _root_.Go.OpenSpec.ofChange s with cond := some uptoSmall }

/-- 'lidarlaw04.TrackTurns', WHERE WHAT IT READS IS OF BULK AT MOST 1048576: true; the input reads as it did. -/
def trackTurnsUptoRow : OpenClaim := { program := "yteoikaedpgianaa", sum := "bc8204ad1bdaaebe648c924966214feb56284f16a617f497de1c749ee64fd884", func := "lidar/lidarlaw04.TrackTurns", spec := "trackTurns", apart := false, narrowed := true }
def TrackTurnsUptoSaid : Prop := trackTurnsUptoRow.holds Try.pinned (OpenSpec.upto trackTurnsSpec)

/-- 'lidarlaw04.TrackBeams', WHERE WHAT IT READS IS OF BULK AT MOST 1048576: true; the input reads as it did. -/
def trackBeamsUptoRow : OpenClaim := { program := "yteoikaedpgianaa", sum := "bc8204ad1bdaaebe648c924966214feb56284f16a617f497de1c749ee64fd884", func := "lidar/lidarlaw04.TrackBeams", spec := "trackBeams", apart := false, narrowed := true }
def TrackBeamsUptoSaid : Prop := trackBeamsUptoRow.holds Try.pinned (OpenSpec.upto trackBeamsSpec)

/-- 'lidarlaw04.TrackInside', WHERE WHAT IT READS IS OF BULK AT MOST 1048576: true; the input reads as it did. -/
def trackInsideUptoRow : OpenClaim := { program := "yteoikaedpgianaa", sum := "bc8204ad1bdaaebe648c924966214feb56284f16a617f497de1c749ee64fd884", func := "lidar/lidarlaw04.TrackInside", spec := "trackInside", apart := false, narrowed := true }
def TrackInsideUptoSaid : Prop := trackInsideUptoRow.holds Try.pinned (OpenSpec.upto trackInsideSpec)

/-- 'lidarlaw04.TrackTimes', WHERE WHAT IT READS IS OF BULK AT MOST 1048576: true; the input reads as it did. -/
def trackTimesUptoRow : OpenClaim := { program := "yteoikaedpgianaa", sum := "bc8204ad1bdaaebe648c924966214feb56284f16a617f497de1c749ee64fd884", func := "lidar/lidarlaw04.TrackTimes", spec := "trackTimes", apart := false, narrowed := true }
def TrackTimesUptoSaid : Prop := trackTimesUptoRow.holds Try.pinned (OpenSpec.upto trackTimesSpec)

/-- 'lidarlaw04.TrackRules', WHERE WHAT IT READS IS OF BULK AT MOST 1048576: true; the input reads as it did. -/
def trackRulesUptoRow : OpenClaim := { program := "yteoikaedpgianaa", sum := "bc8204ad1bdaaebe648c924966214feb56284f16a617f497de1c749ee64fd884", func := "lidar/lidarlaw04.TrackRules", spec := "trackRules", apart := false, narrowed := true }
def TrackRulesUptoSaid : Prop := trackRulesUptoRow.holds Try.pinned (OpenSpec.upto trackRulesSpec)

/-- 'lidarlaw04.TrackDecodes', WHERE WHAT IT READS IS OF BULK AT MOST 1048576: true; the input reads as it did. -/
def trackDecodesUptoRow : OpenClaim := { program := "yteoikaedpgianaa", sum := "bc8204ad1bdaaebe648c924966214feb56284f16a617f497de1c749ee64fd884", func := "lidar/lidarlaw04.TrackDecodes", spec := "trackDecodes", apart := false, narrowed := true }
def TrackDecodesUptoSaid : Prop := trackDecodesUptoRow.holds Try.pinned (OpenSpec.upto trackDecodesSpec)

/-- 'lidarlaw04.TrackNears', WHERE WHAT IT READS IS OF BULK AT MOST 1048576: true; the input reads as it did. -/
def trackNearsUptoRow : OpenClaim := { program := "yteoikaedpgianaa", sum := "bc8204ad1bdaaebe648c924966214feb56284f16a617f497de1c749ee64fd884", func := "lidar/lidarlaw04.TrackNears", spec := "trackNears", named := ["math/bits.divideError", "math/bits.overflowError"], apart := false, narrowed := true }
def TrackNearsUptoSaid : Prop := trackNearsUptoRow.holds Try.pinned (OpenSpec.upto trackNearsSpec)

/-- 'lidarlaw04.TrackLocates', WHERE WHAT IT READS IS OF BULK AT MOST 1048576: true; the input reads as it did. -/
def trackLocatesUptoRow : OpenClaim := { program := "yteoikaedpgianaa", sum := "bc8204ad1bdaaebe648c924966214feb56284f16a617f497de1c749ee64fd884", func := "lidar/lidarlaw04.TrackLocates", spec := "trackLocates", recurses := true, named := ["math/bits.divideError", "math/bits.overflowError"], apart := false, narrowed := true }
def TrackLocatesUptoSaid : Prop := trackLocatesUptoRow.holds Try.pinned (OpenSpec.upto trackLocatesSpec)

/-- 'lidarlaw04.TrackEncodes', WHERE WHAT IT READS IS OF BULK AT MOST 1048576: true; the input reads as it did. -/
def trackEncodesUptoRow : OpenClaim := { program := "yteoikaedpgianaa", sum := "bc8204ad1bdaaebe648c924966214feb56284f16a617f497de1c749ee64fd884", func := "lidar/lidarlaw04.TrackEncodes", spec := "trackEncodes", apart := false, narrowed := true }
def TrackEncodesUptoSaid : Prop := trackEncodesUptoRow.holds Try.pinned (OpenSpec.upto trackEncodesSpec)

/-- 'lidarlaw04.TrackPlaces', WHERE WHAT IT READS IS OF BULK AT MOST 1048576: true; the input reads as it did. -/
def trackPlacesUptoRow : OpenClaim := { program := "yteoikaedpgianaa", sum := "bc8204ad1bdaaebe648c924966214feb56284f16a617f497de1c749ee64fd884", func := "lidar/lidarlaw04.TrackPlaces", spec := "trackPlaces", recurses := true, named := ["math/bits.divideError", "math/bits.overflowError"], apart := false, narrowed := true }
def TrackPlacesUptoSaid : Prop := trackPlacesUptoRow.holds Try.pinned (OpenSpec.upto trackPlacesSpec)

/-- 'lidarlaw04.TrackOffsets', WHERE WHAT IT READS IS OF BULK AT MOST 1048576: true; the input reads as it did. -/
def trackOffsetsUptoRow : OpenClaim := { program := "yteoikaedpgianaa", sum := "bc8204ad1bdaaebe648c924966214feb56284f16a617f497de1c749ee64fd884", func := "lidar/lidarlaw04.TrackOffsets", spec := "trackOffsets", unfollowed := true, recurses := true, apart := false, narrowed := true }
def TrackOffsetsUptoSaid : Prop := trackOffsetsUptoRow.holds Try.pinned (OpenSpec.upto trackOffsetsSpec)

/-- 'lidarlaw04.TrackMoves', WHERE WHAT IT READS IS OF BULK AT MOST 1048576: true; the input reads as it did. -/
def trackMovesUptoRow : OpenClaim := { program := "yteoikaedpgianaa", sum := "bc8204ad1bdaaebe648c924966214feb56284f16a617f497de1c749ee64fd884", func := "lidar/lidarlaw04.TrackMoves", spec := "trackMoves", named := ["math/bits.divideError", "math/bits.overflowError"], apart := false, narrowed := true }
def TrackMovesUptoSaid : Prop := trackMovesUptoRow.holds Try.pinned (OpenSpec.upto trackMovesSpec)

/-- 'lidarlaw04.TrackClocks', WHERE WHAT IT READS IS OF BULK AT MOST 1048576: true; the input reads as it did. -/
def trackClocksUptoRow : OpenClaim := { program := "yteoikaedpgianaa", sum := "bc8204ad1bdaaebe648c924966214feb56284f16a617f497de1c749ee64fd884", func := "lidar/lidarlaw04.TrackClocks", spec := "trackClocks", unfollowed := true, recurses := true, apart := false, narrowed := true }
def TrackClocksUptoSaid : Prop := trackClocksUptoRow.holds Try.pinned (OpenSpec.upto trackClocksSpec)

/-- 'lidarlaw04.TrackPoses', WHERE WHAT IT READS IS OF BULK AT MOST 1048576: true; the input reads as it did. -/
def trackPosesUptoRow : OpenClaim := { program := "yteoikaedpgianaa", sum := "bc8204ad1bdaaebe648c924966214feb56284f16a617f497de1c749ee64fd884", func := "lidar/lidarlaw04.TrackPoses", spec := "trackPoses", named := ["math/bits.divideError", "math/bits.overflowError"], apart := false, narrowed := true }
def TrackPosesUptoSaid : Prop := trackPosesUptoRow.holds Try.pinned (OpenSpec.upto trackPosesSpec)

/-- 'lidarlaw04.TrackCleans', WHERE WHAT IT READS IS OF BULK AT MOST 1048576: true; the input reads as it did. -/
def trackCleansUptoRow : OpenClaim := { program := "yteoikaedpgianaa", sum := "bc8204ad1bdaaebe648c924966214feb56284f16a617f497de1c749ee64fd884", func := "lidar/lidarlaw04.TrackCleans", spec := "trackCleans", unfollowed := true, recurses := true, named := ["math/bits.divideError", "math/bits.overflowError"], apart := false, narrowed := true }
def TrackCleansUptoSaid : Prop := trackCleansUptoRow.holds Try.pinned (OpenSpec.upto trackCleansSpec)

/-- 'lidarlaw04.TrackMany', WHERE WHAT IT READS IS OF BULK AT MOST 1048576: true; the input reads as it did. -/
def trackManyUptoRow : OpenClaim := { program := "yteoikaedpgianaa", sum := "bc8204ad1bdaaebe648c924966214feb56284f16a617f497de1c749ee64fd884", func := "lidar/lidarlaw04.TrackMany", spec := "trackMany", unfollowed := true, recurses := true, named := ["math/bits.divideError", "math/bits.overflowError"], apart := false, narrowed := true }
def TrackManyUptoSaid : Prop := trackManyUptoRow.holds Try.pinned (OpenSpec.upto trackManySpec)

/-- 'lidarlaw04.TrackOrder', WHERE WHAT IT READS IS OF BULK AT MOST 1048576: true; the input reads as it did. -/
def trackOrderUptoRow : OpenClaim := { program := "yteoikaedpgianaa", sum := "bc8204ad1bdaaebe648c924966214feb56284f16a617f497de1c749ee64fd884", func := "lidar/lidarlaw04.TrackOrder", spec := "trackOrder", unfollowed := true, recurses := true, named := ["math/bits.divideError", "math/bits.overflowError"], apart := false, narrowed := true }
def TrackOrderUptoSaid : Prop := trackOrderUptoRow.holds Try.pinned (OpenSpec.upto trackOrderSpec)

end Rows
end Go.Proofs.Yteoikaedpgianaa
