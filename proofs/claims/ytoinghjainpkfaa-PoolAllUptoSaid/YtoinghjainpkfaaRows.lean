/-
  No cell of these rows narrows 'for every input' (looked for: loops, veiled, ifaces, maps, wideKeys, modest, calm, conditions, laid).
  DERIVED. THE GIVEN ROWS OF THIS SEAT. 15 by the template 'for every input the law returns true; each argument reads behind the call as it read before'; 0 by the template 'total and deterministic' (their statements: YtoinghjainpkfaaTotals.lean).
  GIVEN WITH THE SEED: the statements are not yours to turn. If you find one false, say at which input.
  Laid BY PROGRAM, IN A SANDBOX (cutbox-rows.mjs): the forced cells as the released guide's own fill.sh prints them over the translation 35406c631e8b1340… (all of the seat's roots in one cut). By AI agents, Wed Nov 11 2026. No macro, syntax, notation, axiom, sorry.
-/
import Derived.Test.YtoinghjainpkfaaChecked
import GoSem.Claim
import GoSem.ClaimJoined
import GoSem.ClaimMapViews
import Derived.JoinedTies
import Derived.KernelRfl
namespace Go.Proofs.Ytoinghjainpkfaa
/- THE CELL 'sum', in the pinned program and in every row, IS THE sha256 OF THE DUMP (.gsa) THAT YtoinghjainpkfaaProg.lean LOADS. Nothing in Lean hashes anything: it is a label: what it is worth is what the hold of that sum in a sandbox is worth. -/
noncomputable def Try.pinned : Pinned := { name := "ytoinghjainpkfaa", sum := "35406c631e8b1340014a02b2daa56baf7955b1d7cc5bd0cbc46d62742d5f6b36", checked := Try.checked }
namespace Rows
def none {H : Type} : Left H := { results := [], args := [] }

/-- 'regaugelaw06.NodeParts': WHATEVER THE INPUT: true; the input reads as it did. -/
def nodePartsSpec : ChangeSpec := { name := "nodeParts", fn := fun _ => fun
  | [d1, d2] => { results := [.lit (.bool true)], args := [d1, d2] }
  | _ => none }
def nodePartsRow : OpenClaim := { program := "ytoinghjainpkfaa", sum := "35406c631e8b1340014a02b2daa56baf7955b1d7cc5bd0cbc46d62742d5f6b36", func := "regauge/regaugelaw06.NodeParts", spec := "nodeParts", inPlace := ["internal/bytealg.Compare", "slices.overlaps[regauge/item.Item]", "slices.overlaps[regauge/node.Kid]"], unfollowed := true, recurses := true, apart := false }
def NodePartsSaid : Prop := nodePartsRow.holds Try.pinned (OpenSpec.ofChange nodePartsSpec)

/-- ITS FALSE NEIGHBOUR: 'it returns false'. Refute it at one input. -/
def nodePartsWrong : ChangeSpec := { name := "nodeParts", fn := fun _ => fun
  | [d1, d2] => { results := [.lit (.bool false)], args := [d1, d2] }
  | _ => none }
def NodePartsWrongFalsely : Prop := nodePartsRow.holds Try.pinned (OpenSpec.ofChange nodePartsWrong)

/-- 'regaugelaw06.NodeThree': WHATEVER THE INPUT: true; the input reads as it did. -/
def nodeThreeSpec : ChangeSpec := { name := "nodeThree", fn := fun _ => fun
  | [d1, d2, d3] => { results := [.lit (.bool true)], args := [d1, d2, d3] }
  | _ => none }
def nodeThreeRow : OpenClaim := { program := "ytoinghjainpkfaa", sum := "35406c631e8b1340014a02b2daa56baf7955b1d7cc5bd0cbc46d62742d5f6b36", func := "regauge/regaugelaw06.NodeThree", spec := "nodeThree", inPlace := ["internal/bytealg.Compare", "slices.overlaps[regauge/item.Item]", "slices.overlaps[regauge/node.Kid]"], unfollowed := true, recurses := true, apart := false }
def NodeThreeSaid : Prop := nodeThreeRow.holds Try.pinned (OpenSpec.ofChange nodeThreeSpec)

/-- ITS FALSE NEIGHBOUR: 'it returns false'. Refute it at one input. -/
def nodeThreeWrong : ChangeSpec := { name := "nodeThree", fn := fun _ => fun
  | [d1, d2, d3] => { results := [.lit (.bool false)], args := [d1, d2, d3] }
  | _ => none }
def NodeThreeWrongFalsely : Prop := nodeThreeRow.holds Try.pinned (OpenSpec.ofChange nodeThreeWrong)

/-- 'regaugelaw06.NodeEven': WHATEVER THE INPUT: true; the input reads as it did. -/
def nodeEvenSpec : ChangeSpec := { name := "nodeEven", fn := fun _ => fun
  | [d1, d2] => { results := [.lit (.bool true)], args := [d1, d2] }
  | _ => none }
def nodeEvenRow : OpenClaim := { program := "ytoinghjainpkfaa", sum := "35406c631e8b1340014a02b2daa56baf7955b1d7cc5bd0cbc46d62742d5f6b36", func := "regauge/regaugelaw06.NodeEven", spec := "nodeEven", inPlace := ["internal/bytealg.Compare", "slices.overlaps[regauge/item.Item]", "slices.overlaps[regauge/node.Kid]"], unfollowed := true, recurses := true, apart := false }
def NodeEvenSaid : Prop := nodeEvenRow.holds Try.pinned (OpenSpec.ofChange nodeEvenSpec)

/-- ITS FALSE NEIGHBOUR: 'it returns false'. Refute it at one input. -/
def nodeEvenWrong : ChangeSpec := { name := "nodeEven", fn := fun _ => fun
  | [d1, d2] => { results := [.lit (.bool false)], args := [d1, d2] }
  | _ => none }
def NodeEvenWrongFalsely : Prop := nodeEvenRow.holds Try.pinned (OpenSpec.ofChange nodeEvenWrong)

/-- 'regaugelaw04.RunSets': WHATEVER THE INPUT: true; the input reads as it did. -/
def runSetsSpec : ChangeSpec := { name := "runSets", fn := fun _ => fun
  | [d1, d2, d3] => { results := [.lit (.bool true)], args := [d1, d2, d3] }
  | _ => none }
def runSetsRow : OpenClaim := { program := "ytoinghjainpkfaa", sum := "35406c631e8b1340014a02b2daa56baf7955b1d7cc5bd0cbc46d62742d5f6b36", func := "regauge/regaugelaw04.RunSets", spec := "runSets", inPlace := ["slices.overlaps[regauge/run.Run]"], unfollowed := true, recurses := true, apart := false }
def RunSetsSaid : Prop := runSetsRow.holds Try.pinned (OpenSpec.ofChange runSetsSpec)

/-- ITS FALSE NEIGHBOUR: 'it returns false'. Refute it at one input. -/
def runSetsWrong : ChangeSpec := { name := "runSets", fn := fun _ => fun
  | [d1, d2, d3] => { results := [.lit (.bool false)], args := [d1, d2, d3] }
  | _ => none }
def RunSetsWrongFalsely : Prop := runSetsRow.holds Try.pinned (OpenSpec.ofChange runSetsWrong)

/-- 'regaugelaw04.RunAdds': WHATEVER THE INPUT: true; the input reads as it did. -/
def runAddsSpec : ChangeSpec := { name := "runAdds", fn := fun _ => fun
  | [d1, d2] => { results := [.lit (.bool true)], args := [d1, d2] }
  | _ => none }
def runAddsRow : OpenClaim := { program := "ytoinghjainpkfaa", sum := "35406c631e8b1340014a02b2daa56baf7955b1d7cc5bd0cbc46d62742d5f6b36", func := "regauge/regaugelaw04.RunAdds", spec := "runAdds", inPlace := ["slices.overlaps[regauge/run.Run]"], unfollowed := true, recurses := true, apart := false }
def RunAddsSaid : Prop := runAddsRow.holds Try.pinned (OpenSpec.ofChange runAddsSpec)

/-- ITS FALSE NEIGHBOUR: 'it returns false'. Refute it at one input. -/
def runAddsWrong : ChangeSpec := { name := "runAdds", fn := fun _ => fun
  | [d1, d2] => { results := [.lit (.bool false)], args := [d1, d2] }
  | _ => none }
def RunAddsWrongFalsely : Prop := runAddsRow.holds Try.pinned (OpenSpec.ofChange runAddsWrong)

/-- 'regaugelaw04.RunUnions': WHATEVER THE INPUT: true; the input reads as it did. -/
def runUnionsSpec : ChangeSpec := { name := "runUnions", fn := fun _ => fun
  | [d1, d2] => { results := [.lit (.bool true)], args := [d1, d2] }
  | _ => none }
def runUnionsRow : OpenClaim := { program := "ytoinghjainpkfaa", sum := "35406c631e8b1340014a02b2daa56baf7955b1d7cc5bd0cbc46d62742d5f6b36", func := "regauge/regaugelaw04.RunUnions", spec := "runUnions", inPlace := ["slices.overlaps[regauge/run.Run]"], unfollowed := true, recurses := true, apart := false }
def RunUnionsSaid : Prop := runUnionsRow.holds Try.pinned (OpenSpec.ofChange runUnionsSpec)

/-- ITS FALSE NEIGHBOUR: 'it returns false'. Refute it at one input. -/
def runUnionsWrong : ChangeSpec := { name := "runUnions", fn := fun _ => fun
  | [d1, d2] => { results := [.lit (.bool false)], args := [d1, d2] }
  | _ => none }
def RunUnionsWrongFalsely : Prop := runUnionsRow.holds Try.pinned (OpenSpec.ofChange runUnionsWrong)

/-- 'regaugelaw04.RunTakes': WHATEVER THE INPUT: true; the input reads as it did. -/
def runTakesSpec : ChangeSpec := { name := "runTakes", fn := fun _ => fun
  | [d1, d2] => { results := [.lit (.bool true)], args := [d1, d2] }
  | _ => none }
def runTakesRow : OpenClaim := { program := "ytoinghjainpkfaa", sum := "35406c631e8b1340014a02b2daa56baf7955b1d7cc5bd0cbc46d62742d5f6b36", func := "regauge/regaugelaw04.RunTakes", spec := "runTakes", inPlace := ["slices.overlaps[regauge/run.Run]"], unfollowed := true, recurses := true, apart := false }
def RunTakesSaid : Prop := runTakesRow.holds Try.pinned (OpenSpec.ofChange runTakesSpec)

/-- ITS FALSE NEIGHBOUR: 'it returns false'. Refute it at one input. -/
def runTakesWrong : ChangeSpec := { name := "runTakes", fn := fun _ => fun
  | [d1, d2] => { results := [.lit (.bool false)], args := [d1, d2] }
  | _ => none }
def RunTakesWrongFalsely : Prop := runTakesRow.holds Try.pinned (OpenSpec.ofChange runTakesWrong)

/-- 'regaugelaw04.RunBack': WHATEVER THE INPUT: true; the input reads as it did. -/
def runBackSpec : ChangeSpec := { name := "runBack", fn := fun _ => fun
  | [d1, d2] => { results := [.lit (.bool true)], args := [d1, d2] }
  | _ => none }
def runBackRow : OpenClaim := { program := "ytoinghjainpkfaa", sum := "35406c631e8b1340014a02b2daa56baf7955b1d7cc5bd0cbc46d62742d5f6b36", func := "regauge/regaugelaw04.RunBack", spec := "runBack", inPlace := ["slices.overlaps[regauge/run.Run]"], unfollowed := true, recurses := true, apart := false }
def RunBackSaid : Prop := runBackRow.holds Try.pinned (OpenSpec.ofChange runBackSpec)

/-- ITS FALSE NEIGHBOUR: 'it returns false'. Refute it at one input. -/
def runBackWrong : ChangeSpec := { name := "runBack", fn := fun _ => fun
  | [d1, d2] => { results := [.lit (.bool false)], args := [d1, d2] }
  | _ => none }
def RunBackWrongFalsely : Prop := runBackRow.holds Try.pinned (OpenSpec.ofChange runBackWrong)

/-- 'regaugelaw04.RunOrders': WHATEVER THE INPUT: true; the input reads as it did. -/
def runOrdersSpec : ChangeSpec := { name := "runOrders", fn := fun _ => fun
  | [d1, d2] => { results := [.lit (.bool true)], args := [d1, d2] }
  | _ => none }
def runOrdersRow : OpenClaim := { program := "ytoinghjainpkfaa", sum := "35406c631e8b1340014a02b2daa56baf7955b1d7cc5bd0cbc46d62742d5f6b36", func := "regauge/regaugelaw04.RunOrders", spec := "runOrders", inPlace := ["slices.overlaps[regauge/run.Run]"], unfollowed := true, recurses := true, apart := false }
def RunOrdersSaid : Prop := runOrdersRow.holds Try.pinned (OpenSpec.ofChange runOrdersSpec)

/-- ITS FALSE NEIGHBOUR: 'it returns false'. Refute it at one input. -/
def runOrdersWrong : ChangeSpec := { name := "runOrders", fn := fun _ => fun
  | [d1, d2] => { results := [.lit (.bool false)], args := [d1, d2] }
  | _ => none }
def RunOrdersWrongFalsely : Prop := runOrdersRow.holds Try.pinned (OpenSpec.ofChange runOrdersWrong)

/-- 'regaugelaw04.RunCounts': WHATEVER THE INPUT: true; the input reads as it did. -/
def runCountsSpec : ChangeSpec := { name := "runCounts", fn := fun _ => fun
  | [d1, d2] => { results := [.lit (.bool true)], args := [d1, d2] }
  | _ => none }
def runCountsRow : OpenClaim := { program := "ytoinghjainpkfaa", sum := "35406c631e8b1340014a02b2daa56baf7955b1d7cc5bd0cbc46d62742d5f6b36", func := "regauge/regaugelaw04.RunCounts", spec := "runCounts", inPlace := ["slices.overlaps[regauge/run.Run]"], unfollowed := true, recurses := true, apart := false }
def RunCountsSaid : Prop := runCountsRow.holds Try.pinned (OpenSpec.ofChange runCountsSpec)

/-- ITS FALSE NEIGHBOUR: 'it returns false'. Refute it at one input. -/
def runCountsWrong : ChangeSpec := { name := "runCounts", fn := fun _ => fun
  | [d1, d2] => { results := [.lit (.bool false)], args := [d1, d2] }
  | _ => none }
def RunCountsWrongFalsely : Prop := runCountsRow.holds Try.pinned (OpenSpec.ofChange runCountsWrong)

/-- 'regaugelaw11.PoolGrows': WHATEVER THE INPUT: true; the input reads as it did. -/
def poolGrowsSpec : ChangeSpec := { name := "poolGrows", fn := fun _ => fun
  | [d1, d2, d3] => { results := [.lit (.bool true)], args := [d1, d2, d3] }
  | _ => none }
def poolGrowsRow : OpenClaim := { program := "ytoinghjainpkfaa", sum := "35406c631e8b1340014a02b2daa56baf7955b1d7cc5bd0cbc46d62742d5f6b36", func := "regauge/regaugelaw11.PoolGrows", spec := "poolGrows", inPlace := ["slices.overlaps[regauge/run.Run]", "maps.clone"], unfollowed := true, recurses := true, apart := false }
def PoolGrowsSaid : Prop := poolGrowsRow.holds Try.pinned (OpenSpec.ofChange poolGrowsSpec)

/-- ITS FALSE NEIGHBOUR: 'it returns false'. Refute it at one input. -/
def poolGrowsWrong : ChangeSpec := { name := "poolGrows", fn := fun _ => fun
  | [d1, d2, d3] => { results := [.lit (.bool false)], args := [d1, d2, d3] }
  | _ => none }
def PoolGrowsWrongFalsely : Prop := poolGrowsRow.holds Try.pinned (OpenSpec.ofChange poolGrowsWrong)

/-- 'regaugelaw11.PoolBack': WHATEVER THE INPUT: true; the input reads as it did. -/
def poolBackSpec : ChangeSpec := { name := "poolBack", fn := fun _ => fun
  | [d1, d2, d3] => { results := [.lit (.bool true)], args := [d1, d2, d3] }
  | _ => none }
def poolBackRow : OpenClaim := { program := "ytoinghjainpkfaa", sum := "35406c631e8b1340014a02b2daa56baf7955b1d7cc5bd0cbc46d62742d5f6b36", func := "regauge/regaugelaw11.PoolBack", spec := "poolBack", inPlace := ["slices.overlaps[regauge/run.Run]", "maps.clone"], unfollowed := true, recurses := true, apart := false }
def PoolBackSaid : Prop := poolBackRow.holds Try.pinned (OpenSpec.ofChange poolBackSpec)

/-- ITS FALSE NEIGHBOUR: 'it returns false'. Refute it at one input. -/
def poolBackWrong : ChangeSpec := { name := "poolBack", fn := fun _ => fun
  | [d1, d2, d3] => { results := [.lit (.bool false)], args := [d1, d2, d3] }
  | _ => none }
def PoolBackWrongFalsely : Prop := poolBackRow.holds Try.pinned (OpenSpec.ofChange poolBackWrong)

/-- 'regaugelaw11.PoolSettles': WHATEVER THE INPUT: true; the input reads as it did. -/
def poolSettlesSpec : ChangeSpec := { name := "poolSettles", fn := fun _ => fun
  | [d1, d2, d3] => { results := [.lit (.bool true)], args := [d1, d2, d3] }
  | _ => none }
def poolSettlesRow : OpenClaim := { program := "ytoinghjainpkfaa", sum := "35406c631e8b1340014a02b2daa56baf7955b1d7cc5bd0cbc46d62742d5f6b36", func := "regauge/regaugelaw11.PoolSettles", spec := "poolSettles", inPlace := ["slices.overlaps[regauge/run.Run]", "maps.clone"], unfollowed := true, recurses := true, apart := false }
def PoolSettlesSaid : Prop := poolSettlesRow.holds Try.pinned (OpenSpec.ofChange poolSettlesSpec)

/-- ITS FALSE NEIGHBOUR: 'it returns false'. Refute it at one input. -/
def poolSettlesWrong : ChangeSpec := { name := "poolSettles", fn := fun _ => fun
  | [d1, d2, d3] => { results := [.lit (.bool false)], args := [d1, d2, d3] }
  | _ => none }
def PoolSettlesWrongFalsely : Prop := poolSettlesRow.holds Try.pinned (OpenSpec.ofChange poolSettlesWrong)

/-- 'regaugelaw11.PoolAll': WHATEVER THE INPUT: true; the input reads as it did. -/
def poolAllSpec : ChangeSpec := { name := "poolAll", fn := fun _ => fun
  | [d1, d2, d3] => { results := [.lit (.bool true)], args := [d1, d2, d3] }
  | _ => none }
def poolAllRow : OpenClaim := { program := "ytoinghjainpkfaa", sum := "35406c631e8b1340014a02b2daa56baf7955b1d7cc5bd0cbc46d62742d5f6b36", func := "regauge/regaugelaw11.PoolAll", spec := "poolAll", inPlace := ["slices.overlaps[regauge/run.Run]", "maps.clone"], unfollowed := true, recurses := true, apart := false }
def PoolAllSaid : Prop := poolAllRow.holds Try.pinned (OpenSpec.ofChange poolAllSpec)

/-- ITS FALSE NEIGHBOUR: 'it returns false'. Refute it at one input. -/
def poolAllWrong : ChangeSpec := { name := "poolAll", fn := fun _ => fun
  | [d1, d2, d3] => { results := [.lit (.bool false)], args := [d1, d2, d3] }
  | _ => none }
def PoolAllWrongFalsely : Prop := poolAllRow.holds Try.pinned (OpenSpec.ofChange poolAllWrong)

/-- 'regaugelaw11.PoolStates': WHATEVER THE INPUT: true; the input reads as it did. -/
def poolStatesSpec : ChangeSpec := { name := "poolStates", fn := fun _ => fun
  | [d1, d2, d3] => { results := [.lit (.bool true)], args := [d1, d2, d3] }
  | _ => none }
def poolStatesRow : OpenClaim := { program := "ytoinghjainpkfaa", sum := "35406c631e8b1340014a02b2daa56baf7955b1d7cc5bd0cbc46d62742d5f6b36", func := "regauge/regaugelaw11.PoolStates", spec := "poolStates", inPlace := ["slices.overlaps[regauge/run.Run]", "maps.clone"], unfollowed := true, recurses := true, apart := false }
def PoolStatesSaid : Prop := poolStatesRow.holds Try.pinned (OpenSpec.ofChange poolStatesSpec)

/-- ITS FALSE NEIGHBOUR: 'it returns false'. Refute it at one input. -/
def poolStatesWrong : ChangeSpec := { name := "poolStates", fn := fun _ => fun
  | [d1, d2, d3] => { results := [.lit (.bool false)], args := [d1, d2, d3] }
  | _ => none }
def PoolStatesWrongFalsely : Prop := poolStatesRow.holds Try.pinned (OpenSpec.ofChange poolStatesWrong)

/- THE SECOND FORM. 'bulk': how many values and letters a reading holds, each counted each time it is reached (what is shared counts as often as it is met; a slice's spare places count too). A statement '..UptoSaid' is the law's where the arguments, and the package variables that the reading takes, are together of bulk at most 1048576: NARROWER than '..Said'. Prove '..Said' where nothing that the law and all that it calls make is longer than what came in: it says more and counts as full. Else prove '..UptoSaid'. A law counts once. -/
mutual
def uptoBulk {H : Type} : DataW H → Nat
  | .lit (.string bytes) => bytes.length + 1
  | .lit _ => 1
  | .nil => 1
  | .ptr d => uptoBulk d + 1
  | .slice elems spare => uptoBulkAll elems + uptoBulkAll spare + 1
  | .agg parts => uptoBulkAll parts + 1
  | .iface _ d => uptoBulk d + 1
  | .map entries => uptoBulkEntries entries + 1
  | .held _ => 1
def uptoBulkAll {H : Type} : List (DataW H) → Nat
  | [] => 0
  | d :: r => uptoBulk d + uptoBulkAll r
def uptoBulkEntries {H : Type} : List (Lit × DataW H) → Nat
  | [] => 0
  | x :: r => uptoBulkEntry x + uptoBulkEntries r
def uptoBulkEntry {H : Type} : Lit × DataW H → Nat
  | (.string bytes, d) => bytes.length + uptoBulk d + 1
  | (_, d) => uptoBulk d + 1
 end
def uptoSmall : (H : Type) → List (DataW H) → Bool := fun _ ds => decide (uptoBulkAll ds ≤ 1048576)
def OpenSpec.upto (s : _root_.Go.ChangeSpec) : _root_.Go.OpenSpec := { _root_.Go.OpenSpec.ofChange s with cond := some uptoSmall }

/-- 'regaugelaw06.NodeParts', WHERE WHAT IT READS IS OF BULK AT MOST 1048576: true; the input reads as it did. -/
def nodePartsUptoRow : OpenClaim := { program := "ytoinghjainpkfaa", sum := "35406c631e8b1340014a02b2daa56baf7955b1d7cc5bd0cbc46d62742d5f6b36", func := "regauge/regaugelaw06.NodeParts", spec := "nodeParts", inPlace := ["internal/bytealg.Compare", "slices.overlaps[regauge/item.Item]", "slices.overlaps[regauge/node.Kid]"], unfollowed := true, recurses := true, apart := false, narrowed := true }
def NodePartsUptoSaid : Prop := nodePartsUptoRow.holds Try.pinned (OpenSpec.upto nodePartsSpec)

/-- 'regaugelaw06.NodeThree', WHERE WHAT IT READS IS OF BULK AT MOST 1048576: true; the input reads as it did. -/
def nodeThreeUptoRow : OpenClaim := { program := "ytoinghjainpkfaa", sum := "35406c631e8b1340014a02b2daa56baf7955b1d7cc5bd0cbc46d62742d5f6b36", func := "regauge/regaugelaw06.NodeThree", spec := "nodeThree", inPlace := ["internal/bytealg.Compare", "slices.overlaps[regauge/item.Item]", "slices.overlaps[regauge/node.Kid]"], unfollowed := true, recurses := true, apart := false, narrowed := true }
def NodeThreeUptoSaid : Prop := nodeThreeUptoRow.holds Try.pinned (OpenSpec.upto nodeThreeSpec)

/-- 'regaugelaw06.NodeEven', WHERE WHAT IT READS IS OF BULK AT MOST 1048576: true; the input reads as it did. -/
def nodeEvenUptoRow : OpenClaim := { program := "ytoinghjainpkfaa", sum := "35406c631e8b1340014a02b2daa56baf7955b1d7cc5bd0cbc46d62742d5f6b36", func := "regauge/regaugelaw06.NodeEven", spec := "nodeEven", inPlace := ["internal/bytealg.Compare", "slices.overlaps[regauge/item.Item]", "slices.overlaps[regauge/node.Kid]"], unfollowed := true, recurses := true, apart := false, narrowed := true }
def NodeEvenUptoSaid : Prop := nodeEvenUptoRow.holds Try.pinned (OpenSpec.upto nodeEvenSpec)

/-- 'regaugelaw04.RunSets', WHERE WHAT IT READS IS OF BULK AT MOST 1048576: true; the input reads as it did. -/
def runSetsUptoRow : OpenClaim := { program := "ytoinghjainpkfaa", sum := "35406c631e8b1340014a02b2daa56baf7955b1d7cc5bd0cbc46d62742d5f6b36", func := "regauge/regaugelaw04.RunSets", spec := "runSets", inPlace := ["slices.overlaps[regauge/run.Run]"], unfollowed := true, recurses := true, apart := false, narrowed := true }
def RunSetsUptoSaid : Prop := runSetsUptoRow.holds Try.pinned (OpenSpec.upto runSetsSpec)

/-- 'regaugelaw04.RunAdds', WHERE WHAT IT READS IS OF BULK AT MOST 1048576: true; the input reads as it did. -/
def runAddsUptoRow : OpenClaim := { program := "ytoinghjainpkfaa", sum := "35406c631e8b1340014a02b2daa56baf7955b1d7cc5bd0cbc46d62742d5f6b36", func := "regauge/regaugelaw04.RunAdds", spec := "runAdds", inPlace := ["slices.overlaps[regauge/run.Run]"], unfollowed := true, recurses := true, apart := false, narrowed := true }
def RunAddsUptoSaid : Prop := runAddsUptoRow.holds Try.pinned (OpenSpec.upto runAddsSpec)

/-- 'regaugelaw04.RunUnions', WHERE WHAT IT READS IS OF BULK AT MOST 1048576: true; the input reads as it did. -/
def runUnionsUptoRow : OpenClaim := { program := "ytoinghjainpkfaa", sum := "35406c631e8b1340014a02b2daa56baf7955b1d7cc5bd0cbc46d62742d5f6b36", func := "regauge/regaugelaw04.RunUnions", spec := "runUnions", inPlace := ["slices.overlaps[regauge/run.Run]"], unfollowed := true, recurses := true, apart := false, narrowed := true }
def RunUnionsUptoSaid : Prop := runUnionsUptoRow.holds Try.pinned (OpenSpec.upto runUnionsSpec)

/-- 'regaugelaw04.RunTakes', WHERE WHAT IT READS IS OF BULK AT MOST 1048576: true; the input reads as it did. -/
def runTakesUptoRow : OpenClaim := { program := "ytoinghjainpkfaa", sum := "35406c631e8b1340014a02b2daa56baf7955b1d7cc5bd0cbc46d62742d5f6b36", func := "regauge/regaugelaw04.RunTakes", spec := "runTakes", inPlace := ["slices.overlaps[regauge/run.Run]"], unfollowed := true, recurses := true, apart := false, narrowed := true }
def RunTakesUptoSaid : Prop := runTakesUptoRow.holds Try.pinned (OpenSpec.upto runTakesSpec)

/-- 'regaugelaw04.RunBack', WHERE WHAT IT READS IS OF BULK AT MOST 1048576: true; the input reads as it did. -/
def runBackUptoRow : OpenClaim := { program := "ytoinghjainpkfaa", sum := "35406c631e8b1340014a02b2daa56baf7955b1d7cc5bd0cbc46d62742d5f6b36", func := "regauge/regaugelaw04.RunBack", spec := "runBack", inPlace := ["slices.overlaps[regauge/run.Run]"], unfollowed := true, recurses := true, apart := false, narrowed := true }
def RunBackUptoSaid : Prop := runBackUptoRow.holds Try.pinned (OpenSpec.upto runBackSpec)

/-- 'regaugelaw04.RunOrders', WHERE WHAT IT READS IS OF BULK AT MOST 1048576: true; the input reads as it did. -/
def runOrdersUptoRow : OpenClaim := { program := "ytoinghjainpkfaa", sum := "35406c631e8b1340014a02b2daa56baf7955b1d7cc5bd0cbc46d62742d5f6b36", func := "regauge/regaugelaw04.RunOrders", spec := "runOrders", inPlace := ["slices.overlaps[regauge/run.Run]"], unfollowed := true, recurses := true, apart := false, narrowed := true }
def RunOrdersUptoSaid : Prop := runOrdersUptoRow.holds Try.pinned (OpenSpec.upto runOrdersSpec)

/-- 'regaugelaw04.RunCounts', WHERE WHAT IT READS IS OF BULK AT MOST 1048576: true; the input reads as it did. -/
def runCountsUptoRow : OpenClaim := { program := "ytoinghjainpkfaa", sum := "35406c631e8b1340014a02b2daa56baf7955b1d7cc5bd0cbc46d62742d5f6b36", func := "regauge/regaugelaw04.RunCounts", spec := "runCounts", inPlace := ["slices.overlaps[regauge/run.Run]"], unfollowed := true, recurses := true, apart := false, narrowed := true }
def RunCountsUptoSaid : Prop := runCountsUptoRow.holds Try.pinned (OpenSpec.upto runCountsSpec)

/-- 'regaugelaw11.PoolGrows', WHERE WHAT IT READS IS OF BULK AT MOST 1048576: true; the input reads as it did. -/
def poolGrowsUptoRow : OpenClaim := { program := "ytoinghjainpkfaa", sum := "35406c631e8b1340014a02b2daa56baf7955b1d7cc5bd0cbc46d62742d5f6b36", func := "regauge/regaugelaw11.PoolGrows", spec := "poolGrows", inPlace := ["slices.overlaps[regauge/run.Run]", "maps.clone"], unfollowed := true, recurses := true, apart := false, narrowed := true }
def PoolGrowsUptoSaid : Prop := poolGrowsUptoRow.holds Try.pinned (OpenSpec.upto poolGrowsSpec)

/-- 'regaugelaw11.PoolBack', WHERE WHAT IT READS IS OF BULK AT MOST 1048576: true; the input reads as it did. -/
def poolBackUptoRow : OpenClaim := { program := "ytoinghjainpkfaa", sum := "35406c631e8b1340014a02b2daa56baf7955b1d7cc5bd0cbc46d62742d5f6b36", func := "regauge/regaugelaw11.PoolBack", spec := "poolBack", inPlace := ["slices.overlaps[regauge/run.Run]", "maps.clone"], unfollowed := true, recurses := true, apart := false, narrowed := true }
def PoolBackUptoSaid : Prop := poolBackUptoRow.holds Try.pinned (OpenSpec.upto poolBackSpec)

/-- 'regaugelaw11.PoolSettles', WHERE WHAT IT READS IS OF BULK AT MOST 1048576: true; the input reads as it did. -/
def poolSettlesUptoRow : OpenClaim := { program := "ytoinghjainpkfaa", sum := "35406c631e8b1340014a02b2daa56baf7955b1d7cc5bd0cbc46d62742d5f6b36", func := "regauge/regaugelaw11.PoolSettles", spec := "poolSettles", inPlace := ["slices.overlaps[regauge/run.Run]", "maps.clone"], unfollowed := true, recurses := true, apart := false, narrowed := true }
def PoolSettlesUptoSaid : Prop := poolSettlesUptoRow.holds Try.pinned (OpenSpec.upto poolSettlesSpec)

/-- 'regaugelaw11.PoolAll', WHERE WHAT IT READS IS OF BULK AT MOST 1048576: true; the input reads as it did. -/
def poolAllUptoRow : OpenClaim := { program := "ytoinghjainpkfaa", sum := "35406c631e8b1340014a02b2daa56baf7955b1d7cc5bd0cbc46d62742d5f6b36", func := "regauge/regaugelaw11.PoolAll", spec := "poolAll", inPlace := ["slices.overlaps[regauge/run.Run]", "maps.clone"], unfollowed := true, recurses := true, apart := false, narrowed := true }
def PoolAllUptoSaid : Prop := poolAllUptoRow.holds Try.pinned (OpenSpec.upto poolAllSpec)

/-- 'regaugelaw11.PoolStates', WHERE WHAT IT READS IS OF BULK AT MOST 1048576: true; the input reads as it did. -/
def poolStatesUptoRow : OpenClaim := { program := "ytoinghjainpkfaa", sum := "35406c631e8b1340014a02b2daa56baf7955b1d7cc5bd0cbc46d62742d5f6b36", func := "regauge/regaugelaw11.PoolStates", spec := "poolStates", inPlace := ["slices.overlaps[regauge/run.Run]", "maps.clone"], unfollowed := true, recurses := true, apart := false, narrowed := true }
def PoolStatesUptoSaid : Prop := poolStatesUptoRow.holds Try.pinned (OpenSpec.upto poolStatesSpec)

end Rows
end Go.Proofs.Ytoinghjainpkfaa
