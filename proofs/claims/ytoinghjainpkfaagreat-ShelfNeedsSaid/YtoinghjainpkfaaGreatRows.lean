/-
  No cell of these rows narrows 'for every input' (looked for: loops, veiled, ifaces, maps, wideKeys, modest, calm, conditions, laid).
  DERIVED. THE GIVEN ROWS OF THIS SEAT. 5 by the template 'for every input the law returns true; each argument reads behind the call as it read before'; 0 by the template 'total and deterministic' (their statements: YtoinghjainpkfaaGreatTotals.lean).
  GIVEN WITH THE SEED: the statements are not yours to turn. If you find one false, say at which input.
  Laid BY PROGRAM, IN A SANDBOX (cutbox-rows.mjs): the forced cells as the released guide's own fill.sh prints them over the translation 98e4ebcb5c23f9a4… (all of the seat's roots in one cut). By AI agents, Wed Nov 11 2026. No macro, syntax, notation, axiom, sorry.
-/
import Derived.Test.YtoinghjainpkfaaGreatChecked
import GoSem.Claim
import GoSem.ClaimJoined
import GoSem.ClaimMapViews
import Derived.JoinedTies
import Derived.KernelRfl
namespace Go.Proofs.YtoinghjainpkfaaGreat
/- THE CELL 'sum', in the pinned program and in every row, IS THE sha256 OF THE DUMP (.gsa) THAT YtoinghjainpkfaaGreatProg.lean LOADS. Nothing in Lean hashes anything: it is a label: what it is worth is what the hold of that sum in a sandbox is worth. -/
noncomputable def Tryz.pinned : Pinned := { name := "ytoinghjainpkfaagreat", sum := "98e4ebcb5c23f9a45c2197271d2f78c8b210227f400a87861e9debe55a795edd", checked := Tryz.checked }
namespace Rows
def none {H : Type} : Left H := { results := [], args := [] }

/-- 'regaugelaw10.ShelfDecodes': WHATEVER THE INPUT: true; the input reads as it did. -/
def shelfDecodesSpec : ChangeSpec := { name := "shelfDecodes", fn := fun _ => fun
  | [d1, d2] => { results := [.lit (.bool true)], args := [d1, d2] }
  | _ => none }
def shelfDecodesRow : OpenClaim := { program := "ytoinghjainpkfaagreat", sum := "98e4ebcb5c23f9a45c2197271d2f78c8b210227f400a87861e9debe55a795edd", func := "regauge/regaugelaw10.ShelfDecodes", spec := "shelfDecodes", unfollowed := true, recurses := true, apart := false }
def ShelfDecodesSaid : Prop := shelfDecodesRow.holds Tryz.pinned (OpenSpec.ofChange shelfDecodesSpec)

/-- ITS FALSE NEIGHBOUR: 'it returns false'. Refute it at one input. -/
def shelfDecodesWrong : ChangeSpec := { name := "shelfDecodes", fn := fun _ => fun
  | [d1, d2] => { results := [.lit (.bool false)], args := [d1, d2] }
  | _ => none }
def ShelfDecodesWrongFalsely : Prop := shelfDecodesRow.holds Tryz.pinned (OpenSpec.ofChange shelfDecodesWrong)

/-- 'regaugelaw10.ShelfBack': WHATEVER THE INPUT: true; the input reads as it did. -/
def shelfBackSpec : ChangeSpec := { name := "shelfBack", fn := fun _ => fun
  | [d1, d2, d3] => { results := [.lit (.bool true)], args := [d1, d2, d3] }
  | _ => none }
def shelfBackRow : OpenClaim := { program := "ytoinghjainpkfaagreat", sum := "98e4ebcb5c23f9a45c2197271d2f78c8b210227f400a87861e9debe55a795edd", func := "regauge/regaugelaw10.ShelfBack", spec := "shelfBack", unfollowed := true, recurses := true, apart := false }
def ShelfBackSaid : Prop := shelfBackRow.holds Tryz.pinned (OpenSpec.ofChange shelfBackSpec)

/-- ITS FALSE NEIGHBOUR: 'it returns false'. Refute it at one input. -/
def shelfBackWrong : ChangeSpec := { name := "shelfBack", fn := fun _ => fun
  | [d1, d2, d3] => { results := [.lit (.bool false)], args := [d1, d2, d3] }
  | _ => none }
def ShelfBackWrongFalsely : Prop := shelfBackRow.holds Tryz.pinned (OpenSpec.ofChange shelfBackWrong)

/-- 'regaugelaw10.ShelfSame': WHATEVER THE INPUT: true; the input reads as it did. -/
def shelfSameSpec : ChangeSpec := { name := "shelfSame", fn := fun _ => fun
  | [d1, d2] => { results := [.lit (.bool true)], args := [d1, d2] }
  | _ => none }
def shelfSameRow : OpenClaim := { program := "ytoinghjainpkfaagreat", sum := "98e4ebcb5c23f9a45c2197271d2f78c8b210227f400a87861e9debe55a795edd", func := "regauge/regaugelaw10.ShelfSame", spec := "shelfSame", unfollowed := true, recurses := true, apart := false }
def ShelfSameSaid : Prop := shelfSameRow.holds Tryz.pinned (OpenSpec.ofChange shelfSameSpec)

/-- ITS FALSE NEIGHBOUR: 'it returns false'. Refute it at one input. -/
def shelfSameWrong : ChangeSpec := { name := "shelfSame", fn := fun _ => fun
  | [d1, d2] => { results := [.lit (.bool false)], args := [d1, d2] }
  | _ => none }
def ShelfSameWrongFalsely : Prop := shelfSameRow.holds Tryz.pinned (OpenSpec.ofChange shelfSameWrong)

/-- 'regaugelaw10.ShelfGens': WHATEVER THE INPUT: true; the input reads as it did. -/
def shelfGensSpec : ChangeSpec := { name := "shelfGens", fn := fun _ => fun
  | [d1, d2, d3] => { results := [.lit (.bool true)], args := [d1, d2, d3] }
  | _ => none }
def shelfGensRow : OpenClaim := { program := "ytoinghjainpkfaagreat", sum := "98e4ebcb5c23f9a45c2197271d2f78c8b210227f400a87861e9debe55a795edd", func := "regauge/regaugelaw10.ShelfGens", spec := "shelfGens", unfollowed := true, recurses := true, apart := false }
def ShelfGensSaid : Prop := shelfGensRow.holds Tryz.pinned (OpenSpec.ofChange shelfGensSpec)

/-- ITS FALSE NEIGHBOUR: 'it returns false'. Refute it at one input. -/
def shelfGensWrong : ChangeSpec := { name := "shelfGens", fn := fun _ => fun
  | [d1, d2, d3] => { results := [.lit (.bool false)], args := [d1, d2, d3] }
  | _ => none }
def ShelfGensWrongFalsely : Prop := shelfGensRow.holds Tryz.pinned (OpenSpec.ofChange shelfGensWrong)

/-- 'regaugelaw10.ShelfNeeds': WHATEVER THE INPUT: true; the input reads as it did. -/
def shelfNeedsSpec : ChangeSpec := { name := "shelfNeeds", fn := fun _ => fun
  | [d1, d2, d3] => { results := [.lit (.bool true)], args := [d1, d2, d3] }
  | _ => none }
def shelfNeedsRow : OpenClaim := { program := "ytoinghjainpkfaagreat", sum := "98e4ebcb5c23f9a45c2197271d2f78c8b210227f400a87861e9debe55a795edd", func := "regauge/regaugelaw10.ShelfNeeds", spec := "shelfNeeds", unfollowed := true, recurses := true, apart := false }
def ShelfNeedsSaid : Prop := shelfNeedsRow.holds Tryz.pinned (OpenSpec.ofChange shelfNeedsSpec)

/-- ITS FALSE NEIGHBOUR: 'it returns false'. Refute it at one input. -/
def shelfNeedsWrong : ChangeSpec := { name := "shelfNeeds", fn := fun _ => fun
  | [d1, d2, d3] => { results := [.lit (.bool false)], args := [d1, d2, d3] }
  | _ => none }
def ShelfNeedsWrongFalsely : Prop := shelfNeedsRow.holds Tryz.pinned (OpenSpec.ofChange shelfNeedsWrong)

/- THE SECOND FORM. 'bulk': how many values and letters a reading holds, each counted each time it is reached (what is shared counts as often as it is met; a slice's spare places count too). A statement '..UptoSaid' is the law's where the arguments, and the package variables that the reading takes, are together of bulk at most 1048576: NARROWER than '..Said'. Prove '..Said' where nothing that the law and all that it calls make is longer than what came in: it says more and counts as full. Else prove '..UptoSaid'. A law counts once. -/
mutual
def uptoBulk {H : Type} : DataW H → Nat
  | .lit (.string bytes) => bytes.length + 1
  | .lit _ => 1
  | .nil => 1
  | .ptr d => uptoBulk d + 1
  | .slice elems spare => uptoBulkAll elems + uptoBulkAll spare + 1
  | .agg parts => uptoBulkAll parts + 1
  | .iface _ d => uptoBulk d + 1
  | .map entries => uptoBulkEntries entries + 1
  | .held _ => 1
def uptoBulkAll {H : Type} : List (DataW H) → Nat
  | [] => 0
  | d :: r => uptoBulk d + uptoBulkAll r
def uptoBulkEntries {H : Type} : List (Lit × DataW H) → Nat
  | [] => 0
  | x :: r => uptoBulkEntry x + uptoBulkEntries r
def uptoBulkEntry {H : Type} : Lit × DataW H → Nat
  | (.string bytes, d) => bytes.length + uptoBulk d + 1
  | (_, d) => uptoBulk d + 1
 end
def uptoSmall : (H : Type) → List (DataW H) → Bool := fun _ ds => decide (uptoBulkAll ds ≤ 1048576)
def OpenSpec.upto (s : _root_.Go.ChangeSpec) : _root_.Go.OpenSpec := { _root_.Go.OpenSpec.ofChange s with cond := some uptoSmall }

/-- 'regaugelaw10.ShelfDecodes', WHERE WHAT IT READS IS OF BULK AT MOST 1048576: true; the input reads as it did. -/
def shelfDecodesUptoRow : OpenClaim := { program := "ytoinghjainpkfaagreat", sum := "98e4ebcb5c23f9a45c2197271d2f78c8b210227f400a87861e9debe55a795edd", func := "regauge/regaugelaw10.ShelfDecodes", spec := "shelfDecodes", unfollowed := true, recurses := true, apart := false, narrowed := true }
def ShelfDecodesUptoSaid : Prop := shelfDecodesUptoRow.holds Tryz.pinned (OpenSpec.upto shelfDecodesSpec)

/-- 'regaugelaw10.ShelfBack', WHERE WHAT IT READS IS OF BULK AT MOST 1048576: true; the input reads as it did. -/
def shelfBackUptoRow : OpenClaim := { program := "ytoinghjainpkfaagreat", sum := "98e4ebcb5c23f9a45c2197271d2f78c8b210227f400a87861e9debe55a795edd", func := "regauge/regaugelaw10.ShelfBack", spec := "shelfBack", unfollowed := true, recurses := true, apart := false, narrowed := true }
def ShelfBackUptoSaid : Prop := shelfBackUptoRow.holds Tryz.pinned (OpenSpec.upto shelfBackSpec)

/-- 'regaugelaw10.ShelfSame', WHERE WHAT IT READS IS OF BULK AT MOST 1048576: true; the input reads as it did. -/
def shelfSameUptoRow : OpenClaim := { program := "ytoinghjainpkfaagreat", sum := "98e4ebcb5c23f9a45c2197271d2f78c8b210227f400a87861e9debe55a795edd", func := "regauge/regaugelaw10.ShelfSame", spec := "shelfSame", unfollowed := true, recurses := true, apart := false, narrowed := true }
def ShelfSameUptoSaid : Prop := shelfSameUptoRow.holds Tryz.pinned (OpenSpec.upto shelfSameSpec)

/-- 'regaugelaw10.ShelfGens', WHERE WHAT IT READS IS OF BULK AT MOST 1048576: true; the input reads as it did. -/
def shelfGensUptoRow : OpenClaim := { program := "ytoinghjainpkfaagreat", sum := "98e4ebcb5c23f9a45c2197271d2f78c8b210227f400a87861e9debe55a795edd", func := "regauge/regaugelaw10.ShelfGens", spec := "shelfGens", unfollowed := true, recurses := true, apart := false, narrowed := true }
def ShelfGensUptoSaid : Prop := shelfGensUptoRow.holds Tryz.pinned (OpenSpec.upto shelfGensSpec)

/-- 'regaugelaw10.ShelfNeeds', WHERE WHAT IT READS IS OF BULK AT MOST 1048576: true; the input reads as it did. -/
def shelfNeedsUptoRow : OpenClaim := { program := "ytoinghjainpkfaagreat", sum := "98e4ebcb5c23f9a45c2197271d2f78c8b210227f400a87861e9debe55a795edd", func := "regauge/regaugelaw10.ShelfNeeds", spec := "shelfNeeds", unfollowed := true, recurses := true, apart := false, narrowed := true }
def ShelfNeedsUptoSaid : Prop := shelfNeedsUptoRow.holds Tryz.pinned (OpenSpec.upto shelfNeedsSpec)

end Rows
end Go.Proofs.YtoinghjainpkfaaGreat
