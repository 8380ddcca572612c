/- VI, part SH: the program's ways; Get; the document's way. -/
import Derived.Test.YtkjeigdiojdfnaaSG
set_option linter.unusedVariables false
set_option linter.unusedSimpArgs false
set_option maxRecDepth 100000
namespace Go.VI
attribute [local congr] AW_congr OW_congr DW_congr NW_congr VW_congr GW_congr PW_congr KW_congr ite_congr' GV_congr CV_congr

theorem sideD_le (l : List KidM) (key : Bytes) : ∀ k, sideD l key k ≤ k
  | 0 => Nat.le_refl _
  | k + 1 => by
    rw [sideD]
    split
    · exact Nat.le_succ_of_le (sideD_le l key k)
    · exact Nat.le_refl _
theorem choice_key {key : Bytes} (hk : okB key) : Choice (byKey key) (pathK key) where
  call := fun n hn h1 K L Q => k42 hn (by omega) hk
  free := fun n => rfl
  rng := fun n hn hl h0 => ⟨sideP n.kids key, by rw [pathK, hl]; rfl, by
    have := sideD_le n.kids key (n.kids.length - 1)
    unfold sideP
    omega⟩
theorem choice_edge (last : Bool) : Choice (toEdge last) (edgeK last) where
  call := fun n hn h1 K L Q => k51 hn
  free := fun n => rfl
  rng := fun n hn hl h0 => by
    cases last with
    | false => exact ⟨0, rfl, h0⟩
    | true => exact ⟨n.kids.length - 1, by rw [edgeK, hl]; simp; omega, by omega⟩
theorem s16 (l : List NamedM) (hl : okL l) (ht : tinyL l) (root : Int) (key : Bytes) (hk : okB key) (H : Heap) :
    callL ft (.fn (.func 16) [] []) [srcF l, int root, encB key] H = some (.tup [encS (wayM (pathK key) l root).1, int (wayM (pathK key) l root).2], H) := by
  have q : ∀ (Q : AV → Heap → Prop), KW ft (.fn (.func 41) [] []) [srcF l, int root, .fn (.func 42) [] [.ptr 0 0 0]] (hx Heap.empty [.box false [encB key]]) Q ↔ Q (.tup [encS (wayM (pathK key) l root).1, int (wayM (pathK key) l root).2]) (hx Heap.empty [.box true [encB key]]) :=
    fun Q => KW_of (s41 (choice_key hk) l hl ht root rfl)
  simp only [int] at q
  refine call_p (as' := [srcF l, int root, encB key]) rfl rfl (by simp) ?_
  unfold c16 r16
  simp only [↓vp, vq0, vq1, vq2, vq3, vr0, vr1, vr2, vr3, vr4, vr5, vr6, vr7, vr8, vr9, vr10, vr11, vr12, vr13, vr14, vr15, vr16, vr17, vr18, vr19, vr20, vr21, vr22, vr23, vr24, vr25, vr26, vr27, vr28, vr29, vr30, vr31, vr32, vr33, vr34, opS, fpS, okP, pack, nAl, allocA, shId, leaves, fillA, fillR, splice, Nat.reduceLT, Nat.reduceEqDiff, Nat.reduceLeDiff, Nat.reduceAdd, Nat.reduceSub, Nat.reduceMul, Int.reduceBEq, Int.reduceBNe, Int.reduceLT, Int.reduceLE, Int.reduceEq, reduceIte, reduceCtorEq, da, int, boolA, RetP_go, resT, resC, resN, retV1, retV2, retV3, retV0, frzFZ, takeM, Option.some.injEq, q]
theorem s19 (l : List NamedM) (hl : okL l) (ht : tinyL l) (root : Int) (last : Bool) (H : Heap) :
    callL ft (.fn (.func 19) [] []) [srcF l, int root, boolA last] H = some (.tup [encS (wayM (edgeK last) l root).1, int (wayM (edgeK last) l root).2], H) := by
  have q : ∀ (Q : AV → Heap → Prop), KW ft (.fn (.func 41) [] []) [srcF l, int root, .fn (.func 51) [] [.ptr 0 0 0]] (hx Heap.empty [.box false [boolA last]]) Q ↔ Q (.tup [encS (wayM (edgeK last) l root).1, int (wayM (edgeK last) l root).2]) (hx Heap.empty [.box true [boolA last]]) :=
    fun Q => KW_of (s41 (choice_edge last) l hl ht root rfl)
  simp only [int, boolA] at q
  refine call_p (as' := [srcF l, int root, boolA last]) rfl rfl (by simp) ?_
  unfold c19 r19
  simp only [↓vp, vq0, vq1, vq2, vq3, vr0, vr1, vr2, vr3, vr4, vr5, vr6, vr7, vr8, vr9, vr10, vr11, vr12, vr13, vr14, vr15, vr16, vr17, vr18, vr19, vr20, vr21, vr22, vr23, vr24, vr25, vr26, vr27, vr28, vr29, vr30, vr31, vr32, vr33, vr34, opS, fpS, okP, pack, nAl, allocA, shId, leaves, fillA, fillR, splice, Nat.reduceLT, Nat.reduceEqDiff, Nat.reduceLeDiff, Nat.reduceAdd, Nat.reduceSub, Nat.reduceMul, Int.reduceBEq, Int.reduceBNe, Int.reduceLT, Int.reduceLE, Int.reduceEq, reduceIte, reduceCtorEq, da, int, boolA, RetP_go, resT, resC, resN, retV1, retV2, retV3, retV0, frzFZ, takeM, Option.some.injEq, q]
end Go.VI
