/- VI, part ST: alive. -/
import Derived.Test.YtkjeigdiojdfnaaSR
set_option linter.unusedVariables false
set_option linter.unusedSimpArgs false
set_option maxRecDepth 100000
namespace Go.VI
attribute [local congr] AW_congr OW_congr DW_congr NW_congr VW_congr GW_congr PW_congr KW_congr ite_congr' GV_congr CV_congr

theorem ias (H : Heap) (sz id off len : Nat) (i : Int) : iaddrA H none sz (.sl id off len) i = if 0 ≤ i ∧ i < len ∧ rowSz H id = some sz then some (.ptr id (off + i.toNat) 0) else none := rfl
theorem rsz (H : Heap) (id : Nat) : rowSz H id = match H.get id with
    | some (.row _ sz _) => some sz
    | _ => none := rfl
theorem clIt (x : ItemM) : closedL (itemC x) = true := rfl
theorem opI1 (e : Env) (x : Operand) : optI e (some x) = (toI (ev e x)).map some := rfl
theorem opI0 (e : Env) : optI e none = some none := rfl
theorem slA (H : Heap) (sz id off len : Nat) (lo hi mx : Option Int) : sliceA H sz (.sl id off len) lo hi mx = if rowSz H id = some sz then (boundsA len lo hi mx).map fun (l, h) => if 0 < l ∧ l = h then .lst [] else .sl id (off + l) (h - l) else none := rfl
def aItem : ItemM := ⟨[97], [], 0, 0⟩
def bItem : ItemM := ⟨[98], [], 0, 0⟩
/-- A branch of two leaves. -/
def two : List NamedM := [⟨2, ⟨true, [aItem], []⟩⟩, ⟨3, ⟨true, [bItem], []⟩⟩, ⟨4, ⟨false, [], [⟨[], 2⟩, ⟨[98], 3⟩]⟩⟩]
theorem s26 (H : Heap) : callL ft (.fn (.func 26) [] []) [encI [aItem, bItem], int 1, int 2] H = some (.tup [encL two, int 4], H) := by
  refine call_p (as' := [encI [aItem, bItem], int 1, int 2]) rfl rfl (by simp) ?_
  have at0 : ∀ H, iaddrA H none 4 (encI [aItem, bItem]) 0 = some (.pim [itemC aItem, itemC bItem] 0 0) := fun _ => rfl
  have at1 : ∀ H, iaddrA H none 4 (encI [aItem, bItem]) 1 = some (.pim [itemC aItem, itemC bItem] 1 0) := fun _ => rfl
  have c0 : ∀ H, cellsAt H (.pim [itemC aItem, itemC bItem] 0 0) 4 = some (itemC aItem) := fun _ => rfl
  have c1 : ∀ H, cellsAt H (.pim [itemC aItem, itemC bItem] 1 0) 4 = some (itemC bItem) := fun _ => rfl
  have wr1 : IntKind.i64.wrap 1 = 1 := rfl
  have wr2 : IntKind.i64.wrap 2 = 2 := rfl
  have wr3 : IntKind.i64.wrap 3 = 3 := rfl
  have wr4 : IntKind.i64.wrap 4 = 4 := rfl
  have wr5 : IntKind.i64.wrap 5 = 5 := rfl
  unfold c26 c26L3 c26R2 c26L0 c26R1 c26L6 c26L4 c26R5 c26R7 r26
  simp only [↓vp, vq0, vq1, vq2, vq3, vr0, vr1, vr2, vr3, vr4, vr5, vr6, vr7, vr8, vr9, vr10, vr11, vr12, vr13, vr14, vr15, vr16, vr17, vr18, vr19, vr20, vr21, vr22, vr23, vr24, vr25, vr26, vr27, vr28, vr29, vr30, vr31, vr32, vr33, vr34, opS, fpS, okP, pack, nAl, allocA, shId, leaves, fillA, fillR, splice, Nat.reduceLT, Nat.reduceEqDiff, Nat.reduceLeDiff, Nat.reduceAdd, Nat.reduceSub, Nat.reduceMul, Int.reduceBEq, Int.reduceBNe, Int.reduceLT, Int.reduceLE, Int.reduceEq, reduceIte, reduceCtorEq, da, int, boolA]
  repeat (rw [AW_loop]; simp only [↓vp, vq0, vq1, vq2, vq3, vr0, vr1, vr2, vr3, vr4, vr5, vr6, vr7, vr8, vr9, vr10, vr11, vr12, vr13, vr14, vr15, vr16, vr17, vr18, vr19, vr20, vr21, vr22, vr23, vr24, vr25, vr26, vr27, vr28, vr29, vr30, vr31, vr32, vr33, vr34, opS, fpS, okP, pack, nAl, allocA, shId, leaves, fillA, fillR, splice, Nat.reduceLT, Nat.reduceEqDiff, Nat.reduceLeDiff, Nat.reduceAdd, Nat.reduceSub, Nat.reduceMul, Int.reduceBEq, Int.reduceBNe, Int.reduceLT, Int.reduceLE, Int.reduceEq, reduceIte, reduceCtorEq, da, int, boolA, Int.cast_ofNat_Int, Int.natCast_zero, Int.natCast_one, Int.ofNat_one, Int.ofNat_zero, Int.toNat_zero, Int.toNat_one, Int.reduceToNat, ias, rsz, clIt, opI1, opI0, slA, boundsA, Option.getD_none, Option.getD_some, at0, c0, at1, c1, wr1, wr2, wr3, wr4, wr5, Int.reduceAdd, Int.reduceSub])
  simp only [↓vp, vq0, vq1, vq2, vq3, vr0, vr1, vr2, vr3, vr4, vr5, vr6, vr7, vr8, vr9, vr10, vr11, vr12, vr13, vr14, vr15, vr16, vr17, vr18, vr19, vr20, vr21, vr22, vr23, vr24, vr25, vr26, vr27, vr28, vr29, vr30, vr31, vr32, vr33, vr34, opS, fpS, okP, pack, nAl, allocA, shId, leaves, fillA, fillR, splice, Nat.reduceLT, Nat.reduceEqDiff, Nat.reduceLeDiff, Nat.reduceAdd, Nat.reduceSub, Nat.reduceMul, Int.reduceBEq, Int.reduceBNe, Int.reduceLT, Int.reduceLE, Int.reduceEq, reduceIte, reduceCtorEq, da, int, boolA, RetP_go, resT, resC, resN, retV1, retV2, retV3, retV0, frzFZ, takeM, Option.some.injEq]
  rfl
theorem k26 {K : Heap} {L : List Blk} {Q : AV → Heap → Prop} : KW ft (.fn (.func 26) [] []) [encI [aItem, bItem], int 1, int 2] (hx K L) Q ↔ Q (.tup [encL two, int 4]) (hx K L) := KW_of (s26 _)
theorem two_ok : okL two := by
  refine ⟨by decide, fun x hx => ?_⟩
  have hb : ∀ b : Bytes, b = [97] ∨ b = [98] ∨ b = [] → okB b := fun b h => by rcases h with rfl | rfl | rfl <;> exact ⟨by decide, rfl⟩
  simp only [two, List.mem_cons, List.not_mem_nil, or_false] at hx
  rcases hx with rfl | rfl | rfl
  · exact ⟨⟨by decide, fun y hy => by simp at hy; subst hy; exact ⟨hb _ (.inl rfl), hb _ (.inr (.inr rfl))⟩⟩, ⟨by decide, by simp⟩⟩
  · exact ⟨⟨by decide, fun y hy => by simp at hy; subst hy; exact ⟨hb _ (.inr (.inl rfl)), hb _ (.inr (.inr rfl))⟩⟩, ⟨by decide, by simp⟩⟩
  · exact ⟨⟨by decide, by simp⟩, ⟨by decide, fun y hy => by simp at hy; rcases hy with rfl | rfl; exact hb _ (.inr (.inr rfl)); exact hb _ (.inr (.inl rfl))⟩⟩
theorem two_tiny : tinyL two := fun x hx => by
  simp only [two, List.mem_cons, List.not_mem_nil, or_false] at hx
  rcases hx with rfl | rfl | rfl <;> decide
theorem two_all : allM two 4 = (⟨[aItem, bItem], [4, 2, 3], 2⟩, 0) := by rfl
theorem two_get : getM two 4 [98] = (bItem, true, 0) := by rfl
theorem two_not : getM two 4 [99] = (noItem, false, 0) := by rfl
theorem two_path : ∃ s, wayM (pathK [98]) two 4 = ([⟨4, ⟨false, [], [⟨[], 2⟩, ⟨[98], 3⟩]⟩, 1⟩, s], 0) := ⟨_, by rfl⟩
theorem two_edge : ∃ s, wayM (edgeK false) two 4 = ([s, ⟨2, ⟨true, [aItem], []⟩, 0⟩], 0) := ⟨_, by rfl⟩
end Go.VI
