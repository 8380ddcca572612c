/-
  No cell of these rows narrows 'for every input' (looked for: loops, veiled, ifaces, maps, wideKeys, modest, calm, conditions, laid).
  DERIVED. THE GIVEN ROWS OF THIS SEAT. 10 by the template 'for every input the law returns true; each argument reads behind the call as it read before'; 0 by the template 'total and deterministic' (their statements: YtkjeigdiojdfnaaTotals.lean).
  GIVEN WITH THE SEED: the statements are not yours to turn. If you find one false, say at which input.
  Laid BY PROGRAM, IN A SANDBOX (cutbox-rows.mjs): the forced cells as the released guide's own fill.sh prints them over the translation fd132560ae8ab2f6… (all of the seat's roots in one cut). By AI agents, Wed Nov 11 2026. No macro, syntax, notation, axiom, sorry.
-/
import Derived.Test.YtkjeigdiojdfnaaChecked
import GoSem.Claim
import GoSem.ClaimJoined
import GoSem.ClaimMapViews
import Derived.JoinedTies
import Derived.KernelRfl
namespace Go.Proofs.Ytkjeigdiojdfnaa
/- THE CELL 'sum', in the pinned program and in every row, IS THE sha256 OF THE DUMP (.gsa) THAT YtkjeigdiojdfnaaProg.lean LOADS. Nothing in Lean hashes anything: it is a label: what it is worth is what the hold of that sum in a sandbox is worth. -/
noncomputable def Try.pinned : Pinned := { name := "ytkjeigdiojdfnaa", sum := "fd132560ae8ab2f6b03b0e9e44dd3fca591c3f5f6cb63a2cf3023866c073f9cb", checked := Try.checked }
namespace Rows
def none {H : Type} : Left H := { results := [], args := [] }

/-- 'regaugelaw13.TreePaths': WHATEVER THE INPUT: true; the input reads as it did. -/
def treePathsSpec : ChangeSpec := { name := "treePaths", fn := fun _ => fun
  | [d1, d2, d3] => { results := [.lit (.bool true)], args := [d1, d2, d3] }
  | _ => none }
def treePathsRow : OpenClaim := { program := "ytkjeigdiojdfnaa", sum := "fd132560ae8ab2f6b03b0e9e44dd3fca591c3f5f6cb63a2cf3023866c073f9cb", func := "regauge/regaugelaw13.TreePaths", spec := "treePaths", inPlace := ["internal/bytealg.Compare"], unfollowed := true, recurses := true, apart := false }
def TreePathsSaid : Prop := treePathsRow.holds Try.pinned (OpenSpec.ofChange treePathsSpec)

/-- ITS FALSE NEIGHBOUR: 'it returns false'. Refute it at one input. -/
def treePathsWrong : ChangeSpec := { name := "treePaths", fn := fun _ => fun
  | [d1, d2, d3] => { results := [.lit (.bool false)], args := [d1, d2, d3] }
  | _ => none }
def TreePathsWrongFalsely : Prop := treePathsRow.holds Try.pinned (OpenSpec.ofChange treePathsWrong)

/-- 'regaugelaw13.TreeAll': WHATEVER THE INPUT: true; the input reads as it did. -/
def treeAllSpec : ChangeSpec := { name := "treeAll", fn := fun _ => fun
  | [d1, d2] => { results := [.lit (.bool true)], args := [d1, d2] }
  | _ => none }
def treeAllRow : OpenClaim := { program := "ytkjeigdiojdfnaa", sum := "fd132560ae8ab2f6b03b0e9e44dd3fca591c3f5f6cb63a2cf3023866c073f9cb", func := "regauge/regaugelaw13.TreeAll", spec := "treeAll", inPlace := ["internal/bytealg.Compare"], unfollowed := true, recurses := true, apart := false }
def TreeAllSaid : Prop := treeAllRow.holds Try.pinned (OpenSpec.ofChange treeAllSpec)

/-- ITS FALSE NEIGHBOUR: 'it returns false'. Refute it at one input. -/
def treeAllWrong : ChangeSpec := { name := "treeAll", fn := fun _ => fun
  | [d1, d2] => { results := [.lit (.bool false)], args := [d1, d2] }
  | _ => none }
def TreeAllWrongFalsely : Prop := treeAllRow.holds Try.pinned (OpenSpec.ofChange treeAllWrong)

/-- 'regaugelaw13.TreeGets': WHATEVER THE INPUT: true; the input reads as it did. -/
def treeGetsSpec : ChangeSpec := { name := "treeGets", fn := fun _ => fun
  | [d1, d2, d3] => { results := [.lit (.bool true)], args := [d1, d2, d3] }
  | _ => none }
def treeGetsRow : OpenClaim := { program := "ytkjeigdiojdfnaa", sum := "fd132560ae8ab2f6b03b0e9e44dd3fca591c3f5f6cb63a2cf3023866c073f9cb", func := "regauge/regaugelaw13.TreeGets", spec := "treeGets", inPlace := ["internal/bytealg.Compare"], unfollowed := true, recurses := true, apart := false }
def TreeGetsSaid : Prop := treeGetsRow.holds Try.pinned (OpenSpec.ofChange treeGetsSpec)

/-- ITS FALSE NEIGHBOUR: 'it returns false'. Refute it at one input. -/
def treeGetsWrong : ChangeSpec := { name := "treeGets", fn := fun _ => fun
  | [d1, d2, d3] => { results := [.lit (.bool false)], args := [d1, d2, d3] }
  | _ => none }
def TreeGetsWrongFalsely : Prop := treeGetsRow.holds Try.pinned (OpenSpec.ofChange treeGetsWrong)

/-- 'regaugelaw13.TreeMade': WHATEVER THE INPUT: true; the input reads as it did. -/
def treeMadeSpec : ChangeSpec := { name := "treeMade", fn := fun _ => fun
  | [d1, d2, d3] => { results := [.lit (.bool true)], args := [d1, d2, d3] }
  | _ => none }
def treeMadeRow : OpenClaim := { program := "ytkjeigdiojdfnaa", sum := "fd132560ae8ab2f6b03b0e9e44dd3fca591c3f5f6cb63a2cf3023866c073f9cb", func := "regauge/regaugelaw13.TreeMade", spec := "treeMade", inPlace := ["internal/bytealg.Compare"], unfollowed := true, recurses := true, apart := false }
def TreeMadeSaid : Prop := treeMadeRow.holds Try.pinned (OpenSpec.ofChange treeMadeSpec)

/-- ITS FALSE NEIGHBOUR: 'it returns false'. Refute it at one input. -/
def treeMadeWrong : ChangeSpec := { name := "treeMade", fn := fun _ => fun
  | [d1, d2, d3] => { results := [.lit (.bool false)], args := [d1, d2, d3] }
  | _ => none }
def TreeMadeWrongFalsely : Prop := treeMadeRow.holds Try.pinned (OpenSpec.ofChange treeMadeWrong)

/-- 'regaugelaw13.TreeEdges': WHATEVER THE INPUT: true; the input reads as it did. -/
def treeEdgesSpec : ChangeSpec := { name := "treeEdges", fn := fun _ => fun
  | [d1, d2] => { results := [.lit (.bool true)], args := [d1, d2] }
  | _ => none }
def treeEdgesRow : OpenClaim := { program := "ytkjeigdiojdfnaa", sum := "fd132560ae8ab2f6b03b0e9e44dd3fca591c3f5f6cb63a2cf3023866c073f9cb", func := "regauge/regaugelaw13.TreeEdges", spec := "treeEdges", inPlace := ["internal/bytealg.Compare"], unfollowed := true, recurses := true, apart := false }
def TreeEdgesSaid : Prop := treeEdgesRow.holds Try.pinned (OpenSpec.ofChange treeEdgesSpec)

/-- ITS FALSE NEIGHBOUR: 'it returns false'. Refute it at one input. -/
def treeEdgesWrong : ChangeSpec := { name := "treeEdges", fn := fun _ => fun
  | [d1, d2] => { results := [.lit (.bool false)], args := [d1, d2] }
  | _ => none }
def TreeEdgesWrongFalsely : Prop := treeEdgesRow.holds Try.pinned (OpenSpec.ofChange treeEdgesWrong)

/-- 'regaugelaw15.CursorAll': WHATEVER THE INPUT: true; the input reads as it did. -/
def cursorAllSpec : ChangeSpec := { name := "cursorAll", fn := fun _ => fun
  | [d1, d2, d3] => { results := [.lit (.bool true)], args := [d1, d2, d3] }
  | _ => none }
def cursorAllRow : OpenClaim := { program := "ytkjeigdiojdfnaa", sum := "fd132560ae8ab2f6b03b0e9e44dd3fca591c3f5f6cb63a2cf3023866c073f9cb", func := "regauge/regaugelaw15.CursorAll", spec := "cursorAll", inPlace := ["internal/bytealg.Compare"], unfollowed := true, recurses := true, apart := false }
def CursorAllSaid : Prop := cursorAllRow.holds Try.pinned (OpenSpec.ofChange cursorAllSpec)

/-- ITS FALSE NEIGHBOUR: 'it returns false'. Refute it at one input. -/
def cursorAllWrong : ChangeSpec := { name := "cursorAll", fn := fun _ => fun
  | [d1, d2, d3] => { results := [.lit (.bool false)], args := [d1, d2, d3] }
  | _ => none }
def CursorAllWrongFalsely : Prop := cursorAllRow.holds Try.pinned (OpenSpec.ofChange cursorAllWrong)

/-- 'regaugelaw15.CursorWhole': WHATEVER THE INPUT: true; the input reads as it did. -/
def cursorWholeSpec : ChangeSpec := { name := "cursorWhole", fn := fun _ => fun
  | [d1, d2] => { results := [.lit (.bool true)], args := [d1, d2] }
  | _ => none }
def cursorWholeRow : OpenClaim := { program := "ytkjeigdiojdfnaa", sum := "fd132560ae8ab2f6b03b0e9e44dd3fca591c3f5f6cb63a2cf3023866c073f9cb", func := "regauge/regaugelaw15.CursorWhole", spec := "cursorWhole", inPlace := ["internal/bytealg.Compare"], unfollowed := true, recurses := true, apart := false }
def CursorWholeSaid : Prop := cursorWholeRow.holds Try.pinned (OpenSpec.ofChange cursorWholeSpec)

/-- ITS FALSE NEIGHBOUR: 'it returns false'. Refute it at one input. -/
def cursorWholeWrong : ChangeSpec := { name := "cursorWhole", fn := fun _ => fun
  | [d1, d2] => { results := [.lit (.bool false)], args := [d1, d2] }
  | _ => none }
def CursorWholeWrongFalsely : Prop := cursorWholeRow.holds Try.pinned (OpenSpec.ofChange cursorWholeWrong)

/-- 'regaugelaw15.CursorBack': WHATEVER THE INPUT: true; the input reads as it did. -/
def cursorBackSpec : ChangeSpec := { name := "cursorBack", fn := fun _ => fun
  | [d1, d2, d3] => { results := [.lit (.bool true)], args := [d1, d2, d3] }
  | _ => none }
def cursorBackRow : OpenClaim := { program := "ytkjeigdiojdfnaa", sum := "fd132560ae8ab2f6b03b0e9e44dd3fca591c3f5f6cb63a2cf3023866c073f9cb", func := "regauge/regaugelaw15.CursorBack", spec := "cursorBack", inPlace := ["internal/bytealg.Compare"], unfollowed := true, recurses := true, apart := false }
def CursorBackSaid : Prop := cursorBackRow.holds Try.pinned (OpenSpec.ofChange cursorBackSpec)

/-- ITS FALSE NEIGHBOUR: 'it returns false'. Refute it at one input. -/
def cursorBackWrong : ChangeSpec := { name := "cursorBack", fn := fun _ => fun
  | [d1, d2, d3] => { results := [.lit (.bool false)], args := [d1, d2, d3] }
  | _ => none }
def CursorBackWrongFalsely : Prop := cursorBackRow.holds Try.pinned (OpenSpec.ofChange cursorBackWrong)

/-- 'regaugelaw15.CursorErrors': WHATEVER THE INPUT: true; the input reads as it did. -/
def cursorErrorsSpec : ChangeSpec := { name := "cursorErrors", fn := fun _ => fun
  | [d1, d2, d3] => { results := [.lit (.bool true)], args := [d1, d2, d3] }
  | _ => none }
def cursorErrorsRow : OpenClaim := { program := "ytkjeigdiojdfnaa", sum := "fd132560ae8ab2f6b03b0e9e44dd3fca591c3f5f6cb63a2cf3023866c073f9cb", func := "regauge/regaugelaw15.CursorErrors", spec := "cursorErrors", inPlace := ["internal/bytealg.Compare"], unfollowed := true, recurses := true, apart := false }
def CursorErrorsSaid : Prop := cursorErrorsRow.holds Try.pinned (OpenSpec.ofChange cursorErrorsSpec)

/-- ITS FALSE NEIGHBOUR: 'it returns false'. Refute it at one input. -/
def cursorErrorsWrong : ChangeSpec := { name := "cursorErrors", fn := fun _ => fun
  | [d1, d2, d3] => { results := [.lit (.bool false)], args := [d1, d2, d3] }
  | _ => none }
def CursorErrorsWrongFalsely : Prop := cursorErrorsRow.holds Try.pinned (OpenSpec.ofChange cursorErrorsWrong)

/-- 'regaugelaw15.CursorSeeks': WHATEVER THE INPUT: true; the input reads as it did. -/
def cursorSeeksSpec : ChangeSpec := { name := "cursorSeeks", fn := fun _ => fun
  | [d1, d2, d3] => { results := [.lit (.bool true)], args := [d1, d2, d3] }
  | _ => none }
def cursorSeeksRow : OpenClaim := { program := "ytkjeigdiojdfnaa", sum := "fd132560ae8ab2f6b03b0e9e44dd3fca591c3f5f6cb63a2cf3023866c073f9cb", func := "regauge/regaugelaw15.CursorSeeks", spec := "cursorSeeks", inPlace := ["internal/bytealg.Compare"], unfollowed := true, recurses := true, apart := false }
def CursorSeeksSaid : Prop := cursorSeeksRow.holds Try.pinned (OpenSpec.ofChange cursorSeeksSpec)

/-- ITS FALSE NEIGHBOUR: 'it returns false'. Refute it at one input. -/
def cursorSeeksWrong : ChangeSpec := { name := "cursorSeeks", fn := fun _ => fun
  | [d1, d2, d3] => { results := [.lit (.bool false)], args := [d1, d2, d3] }
  | _ => none }
def CursorSeeksWrongFalsely : Prop := cursorSeeksRow.holds Try.pinned (OpenSpec.ofChange cursorSeeksWrong)

/- THE SECOND FORM. 'bulk': how many values and letters a reading holds, each counted each time it is reached (what is shared counts as often as it is met; a slice's spare places count too). A statement '..UptoSaid' is the law's where the arguments, and the package variables that the reading takes, are together of bulk at most 1048576: NARROWER than '..Said'. Prove '..Said' where nothing that the law and all that it calls make is longer than what came in: it says more and counts as full. Else prove '..UptoSaid'. A law counts once. -/
mutual
def uptoBulk {H : Type} : DataW H → Nat
  | .lit (.string bytes) => bytes.length + 1
  | .lit _ => 1
  | .nil => 1
  | .ptr d => uptoBulk d + 1
  | .slice elems spare => uptoBulkAll elems + uptoBulkAll spare + 1
  | .agg parts => uptoBulkAll parts + 1
  | .iface _ d => uptoBulk d + 1
  | .map entries => uptoBulkEntries entries + 1
  | .held _ => 1
def uptoBulkAll {H : Type} : List (DataW H) → Nat
  | [] => 0
  | d :: r => uptoBulk d + uptoBulkAll r
def uptoBulkEntries {H : Type} : List (Lit × DataW H) → Nat
  | [] => 0
  | x :: r => uptoBulkEntry x + uptoBulkEntries r
def uptoBulkEntry {H : Type} : Lit × DataW H → Nat
  | (.string bytes, d) => bytes.length + uptoBulk d + 1
  | (_, d) => uptoBulk d + 1
 end
def uptoSmall : (H : Type) → List (DataW H) → Bool := fun _ ds => decide (uptoBulkAll ds ≤ 1048576)
def OpenSpec.upto (s : _root_.Go.ChangeSpec) : _root_.Go.OpenSpec := { _root_.Go.OpenSpec.ofChange s with cond := some uptoSmall }

/-- 'regaugelaw13.TreePaths', WHERE WHAT IT READS IS OF BULK AT MOST 1048576: true; the input reads as it did. -/
def treePathsUptoRow : OpenClaim := { program := "ytkjeigdiojdfnaa", sum := "fd132560ae8ab2f6b03b0e9e44dd3fca591c3f5f6cb63a2cf3023866c073f9cb", func := "regauge/regaugelaw13.TreePaths", spec := "treePaths", inPlace := ["internal/bytealg.Compare"], unfollowed := true, recurses := true, apart := false, narrowed := true }
def TreePathsUptoSaid : Prop := treePathsUptoRow.holds Try.pinned (OpenSpec.upto treePathsSpec)

/-- 'regaugelaw13.TreeAll', WHERE WHAT IT READS IS OF BULK AT MOST 1048576: true; the input reads as it did. -/
def treeAllUptoRow : OpenClaim := { program := "ytkjeigdiojdfnaa", sum := "fd132560ae8ab2f6b03b0e9e44dd3fca591c3f5f6cb63a2cf3023866c073f9cb", func := "regauge/regaugelaw13.TreeAll", spec := "treeAll", inPlace := ["internal/bytealg.Compare"], unfollowed := true, recurses := true, apart := false, narrowed := true }
def TreeAllUptoSaid : Prop := treeAllUptoRow.holds Try.pinned (OpenSpec.upto treeAllSpec)

/-- 'regaugelaw13.TreeGets', WHERE WHAT IT READS IS OF BULK AT MOST 1048576: true; the input reads as it did. -/
def treeGetsUptoRow : OpenClaim := { program := "ytkjeigdiojdfnaa", sum := "fd132560ae8ab2f6b03b0e9e44dd3fca591c3f5f6cb63a2cf3023866c073f9cb", func := "regauge/regaugelaw13.TreeGets", spec := "treeGets", inPlace := ["internal/bytealg.Compare"], unfollowed := true, recurses := true, apart := false, narrowed := true }
def TreeGetsUptoSaid : Prop := treeGetsUptoRow.holds Try.pinned (OpenSpec.upto treeGetsSpec)

/-- 'regaugelaw13.TreeMade', WHERE WHAT IT READS IS OF BULK AT MOST 1048576: true; the input reads as it did. -/
def treeMadeUptoRow : OpenClaim := { program := "ytkjeigdiojdfnaa", sum := "fd132560ae8ab2f6b03b0e9e44dd3fca591c3f5f6cb63a2cf3023866c073f9cb", func := "regauge/regaugelaw13.TreeMade", spec := "treeMade", inPlace := ["internal/bytealg.Compare"], unfollowed := true, recurses := true, apart := false, narrowed := true }
def TreeMadeUptoSaid : Prop := treeMadeUptoRow.holds Try.pinned (OpenSpec.upto treeMadeSpec)

/-- 'regaugelaw13.TreeEdges', WHERE WHAT IT READS IS OF BULK AT MOST 1048576: true; the input reads as it did. -/
def treeEdgesUptoRow : OpenClaim := { program := "ytkjeigdiojdfnaa", sum := "fd132560ae8ab2f6b03b0e9e44dd3fca591c3f5f6cb63a2cf3023866c073f9cb", func := "regauge/regaugelaw13.TreeEdges", spec := "treeEdges", inPlace := ["internal/bytealg.Compare"], unfollowed := true, recurses := true, apart := false, narrowed := true }
def TreeEdgesUptoSaid : Prop := treeEdgesUptoRow.holds Try.pinned (OpenSpec.upto treeEdgesSpec)

/-- 'regaugelaw15.CursorAll', WHERE WHAT IT READS IS OF BULK AT MOST 1048576: true; the input reads as it did. -/
def cursorAllUptoRow : OpenClaim := { program := "ytkjeigdiojdfnaa", sum := "fd132560ae8ab2f6b03b0e9e44dd3fca591c3f5f6cb63a2cf3023866c073f9cb", func := "regauge/regaugelaw15.CursorAll", spec := "cursorAll", inPlace := ["internal/bytealg.Compare"], unfollowed := true, recurses := true, apart := false, narrowed := true }
def CursorAllUptoSaid : Prop := cursorAllUptoRow.holds Try.pinned (OpenSpec.upto cursorAllSpec)

/-- 'regaugelaw15.CursorWhole', WHERE WHAT IT READS IS OF BULK AT MOST 1048576: true; the input reads as it did. -/
def cursorWholeUptoRow : OpenClaim := { program := "ytkjeigdiojdfnaa", sum := "fd132560ae8ab2f6b03b0e9e44dd3fca591c3f5f6cb63a2cf3023866c073f9cb", func := "regauge/regaugelaw15.CursorWhole", spec := "cursorWhole", inPlace := ["internal/bytealg.Compare"], unfollowed := true, recurses := true, apart := false, narrowed := true }
def CursorWholeUptoSaid : Prop := cursorWholeUptoRow.holds Try.pinned (OpenSpec.upto cursorWholeSpec)

/-- 'regaugelaw15.CursorBack', WHERE WHAT IT READS IS OF BULK AT MOST 1048576: true; the input reads as it did. -/
def cursorBackUptoRow : OpenClaim := { program := "ytkjeigdiojdfnaa", sum := "fd132560ae8ab2f6b03b0e9e44dd3fca591c3f5f6cb63a2cf3023866c073f9cb", func := "regauge/regaugelaw15.CursorBack", spec := "cursorBack", inPlace := ["internal/bytealg.Compare"], unfollowed := true, recurses := true, apart := false, narrowed := true }
def CursorBackUptoSaid : Prop := cursorBackUptoRow.holds Try.pinned (OpenSpec.upto cursorBackSpec)

/-- 'regaugelaw15.CursorErrors', WHERE WHAT IT READS IS OF BULK AT MOST 1048576: true; the input reads as it did. -/
def cursorErrorsUptoRow : OpenClaim := { program := "ytkjeigdiojdfnaa", sum := "fd132560ae8ab2f6b03b0e9e44dd3fca591c3f5f6cb63a2cf3023866c073f9cb", func := "regauge/regaugelaw15.CursorErrors", spec := "cursorErrors", inPlace := ["internal/bytealg.Compare"], unfollowed := true, recurses := true, apart := false, narrowed := true }
def CursorErrorsUptoSaid : Prop := cursorErrorsUptoRow.holds Try.pinned (OpenSpec.upto cursorErrorsSpec)

/-- 'regaugelaw15.CursorSeeks', WHERE WHAT IT READS IS OF BULK AT MOST 1048576: true; the input reads as it did. -/
def cursorSeeksUptoRow : OpenClaim := { program := "ytkjeigdiojdfnaa", sum := "fd132560ae8ab2f6b03b0e9e44dd3fca591c3f5f6cb63a2cf3023866c073f9cb", func := "regauge/regaugelaw15.CursorSeeks", spec := "cursorSeeks", inPlace := ["internal/bytealg.Compare"], unfollowed := true, recurses := true, apart := false, narrowed := true }
def CursorSeeksUptoSaid : Prop := cursorSeeksUptoRow.holds Try.pinned (OpenSpec.upto cursorSeeksSpec)

end Rows
end Go.Proofs.Ytkjeigdiojdfnaa
