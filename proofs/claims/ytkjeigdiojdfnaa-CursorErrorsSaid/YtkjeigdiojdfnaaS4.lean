import Derived.Test.YtkjeigdiojdfnaaS3
import Derived.ChangeArms
import Derived.ChangeReads
import GoSem.ClaimJoined
import Derived.Below
import Derived.Test.YtkjeigdiojdfnaaChecked
import Derived.KernelRfl
/- What the claim hangs on, part 4: SF SG SH SI SJ SL SM SN SO SP SQ SR ST SU RA RB RF RG TB TD TE TG TH. -/
set_option linter.unusedVariables false
set_option linter.unusedSimpArgs false
set_option maxRecDepth 100000
namespace Go.VI
attribute [local congr] AW_congr OW_congr DW_congr NW_congr VW_congr GW_congr PW_congr KW_congr ite_congr' GV_congr CV_congr
def sideD (l : List KidM) (key : Bytes) : Nat → Nat
  | 0 => 0
  | k + 1 => if 0 < cmpB ((l[k + 1]?).elim [] (·.key)) key then sideD l key k else k + 1
def sideP (l : List KidM) (key : Bytes) : Nat := sideD l key (l.length - 1)
theorem wrap_pred {i : Nat} (h : i < 9223372036854775807) : IntKind.i64.wrap (((i + 1 : Nat) : Int) - 1) = (i : Int) := by
  rw [wrap_i64 (by omega)]; omega
theorem l44 (n : NodeM) (key : Bytes) (hn : okN n) (hk : okB key) {L : List Blk} {Q : AExit → Env → Heap → Prop} (hL : L[0]? = some (.box false (nodeC n)))
   (hex : ∀ f', f' 5 = int (sideP n.kids key) → Q (.exit 0) (mkE 27 f') (hx Heap.empty L)) :
   ∀ (k : Nat) (f : Nat → AV), k < n.kids.length → sideP n.kids key = sideD n.kids key k → f 1 = encB key → f 2 = .ptr 0 0 0 → f 5 = int k →
    AW ft (.loop c44L0) (mkE 27 f) (hx Heap.empty L) Q := by
  intro k
  have hi := hn.k.n
  unfold MX at hi
  induction k with
  | zero =>
    intro f hd hc h1 h2 h5
    rw [AW_loop]
    unfold c44L0
    have g : ((0 : Int) < ((0 : Nat) : Int)) = False := by simp
    simp only [↓vp, vq0, vq1, vq2, vq3, vr0, vr1, vr2, vr3, vr4, vr5, vr6, vr7, vr8, vr9, vr10, vr11, vr12, vr13, vr14, vr15, vr16, vr17, vr18, vr19, vr20, vr21, vr22, vr23, vr24, vr25, vr26, vr27, vr28, vr29, vr30, vr31, vr32, vr33, vr34, opS, fpS, okP, pack, nAl, allocA, shId, leaves, fillA, fillR, splice, Nat.reduceLT, Nat.reduceEqDiff, Nat.reduceLeDiff, Nat.reduceAdd, Nat.reduceSub, Nat.reduceMul, Int.reduceBEq, Int.reduceBNe, Int.reduceLT, Int.reduceLE, Int.reduceEq, reduceIte, reduceCtorEq, da, int, boolA, hL, h1, h2, h5, g]
    refine hex _ ?_
    simp only [↓vp, vq0, vq1, vq2, vq3, vr0, vr1, vr2, vr3, vr4, vr5, vr6, vr7, vr8, vr9, vr10, vr11, vr12, vr13, vr14, vr15, vr16, vr17, vr18, vr19, vr20, vr21, vr22, vr23, vr24, vr25, vr26, vr27, vr28, vr29, vr30, vr31, vr32, vr33, vr34, opS, fpS, okP, pack, nAl, allocA, shId, leaves, fillA, fillR, splice, Nat.reduceLT, Nat.reduceEqDiff, Nat.reduceLeDiff, Nat.reduceAdd, Nat.reduceSub, Nat.reduceMul, Int.reduceBEq, Int.reduceBNe, Int.reduceLT, Int.reduceLE, Int.reduceEq, reduceIte, reduceCtorEq, da, int, boolA, h5, hc, sideD]
  | succ k ih =>
    intro f hd hc h1 h2 h5
    have g : ((0 : Int) < ((k + 1 : Nat) : Int)) = True := eq_true (by omega)
    have hkey := hn.k.at_ hd
    have w1 := wrap_pred (show k < 9223372036854775807 by omega)
    rw [sideD, List.getElem?_eq_getElem hd, Option.elim_some] at hc
    rw [AW_loop]
    unfold c44L0
    by_cases e1 : 0 < cmpB n.kids[k + 1].key key
    · rw [if_pos e1] at hc
      simp only [↓vp, vq0, vq1, vq2, vq3, vr0, vr1, vr2, vr3, vr4, vr5, vr6, vr7, vr8, vr9, vr10, vr11, vr12, vr13, vr14, vr15, vr16, vr17, vr18, vr19, vr20, vr21, vr22, vr23, vr24, vr25, vr26, vr27, vr28, vr29, vr30, vr31, vr32, vr33, vr34, opS, fpS, okP, pack, nAl, allocA, shId, leaves, fillA, fillR, splice, Nat.reduceLT, Nat.reduceEqDiff, Nat.reduceLeDiff, Nat.reduceAdd, Nat.reduceSub, Nat.reduceMul, Int.reduceBEq, Int.reduceBNe, Int.reduceLT, Int.reduceLE, Int.reduceEq, reduceIte, reduceCtorEq, da, int, boolA, hL, h1, h2, h5, g, atK hd, cK hd, k40, hkey, hk, e1, w1]
      refine ih _ (by omega) hc ?_ ?_ ?_ <;> simp only [↓vp, vq0, vq1, vq2, vq3, vr0, vr1, vr2, vr3, vr4, vr5, vr6, vr7, vr8, vr9, vr10, vr11, vr12, vr13, vr14, vr15, vr16, vr17, vr18, vr19, vr20, vr21, vr22, vr23, vr24, vr25, vr26, vr27, vr28, vr29, vr30, vr31, vr32, vr33, vr34, opS, fpS, okP, pack, nAl, allocA, shId, leaves, fillA, fillR, splice, Nat.reduceLT, Nat.reduceEqDiff, Nat.reduceLeDiff, Nat.reduceAdd, Nat.reduceSub, Nat.reduceMul, Int.reduceBEq, Int.reduceBNe, Int.reduceLT, Int.reduceLE, Int.reduceEq, reduceIte, reduceCtorEq, da, int, boolA, h1, h2, h5]
    · rw [if_neg e1] at hc
      simp only [↓vp, vq0, vq1, vq2, vq3, vr0, vr1, vr2, vr3, vr4, vr5, vr6, vr7, vr8, vr9, vr10, vr11, vr12, vr13, vr14, vr15, vr16, vr17, vr18, vr19, vr20, vr21, vr22, vr23, vr24, vr25, vr26, vr27, vr28, vr29, vr30, vr31, vr32, vr33, vr34, opS, fpS, okP, pack, nAl, allocA, shId, leaves, fillA, fillR, splice, Nat.reduceLT, Nat.reduceEqDiff, Nat.reduceLeDiff, Nat.reduceAdd, Nat.reduceSub, Nat.reduceMul, Int.reduceBEq, Int.reduceBNe, Int.reduceLT, Int.reduceLE, Int.reduceEq, reduceIte, reduceCtorEq, da, int, boolA, hL, h1, h2, h5, g, atK hd, cK hd, k40, hkey, hk, e1, w1]
      refine hex _ ?_
      simp only [↓vp, vq0, vq1, vq2, vq3, vr0, vr1, vr2, vr3, vr4, vr5, vr6, vr7, vr8, vr9, vr10, vr11, vr12, vr13, vr14, vr15, vr16, vr17, vr18, vr19, vr20, vr21, vr22, vr23, vr24, vr25, vr26, vr27, vr28, vr29, vr30, vr31, vr32, vr33, vr34, opS, fpS, okP, pack, nAl, allocA, shId, leaves, fillA, fillR, splice, Nat.reduceLT, Nat.reduceEqDiff, Nat.reduceLeDiff, Nat.reduceAdd, Nat.reduceSub, Nat.reduceMul, Int.reduceBEq, Int.reduceBNe, Int.reduceLT, Int.reduceLE, Int.reduceEq, reduceIte, reduceCtorEq, da, int, boolA, h5, hc]
theorem s44 (n : NodeM) (key : Bytes) (hn : okN n) (hk : okB key) (H : Heap) : callL ft (.fn (.func 44) [] []) [.agg (nodeC n), encB key] H = some (int (sideP n.kids key), H) := by
  refine call_p (as' := [.agg (nodeC n), encB key]) rfl rfl (by simp) ?_
  have hi := hn.k.n
  unfold MX at hi
  unfold c44 r44
  simp only [↓vp, vq0, vq1, vq2, vq3, vr0, vr1, vr2, vr3, vr4, vr5, vr6, vr7, vr8, vr9, vr10, vr11, vr12, vr13, vr14, vr15, vr16, vr17, vr18, vr19, vr20, vr21, vr22, vr23, vr24, vr25, vr26, vr27, vr28, vr29, vr30, vr31, vr32, vr33, vr34, opS, fpS, okP, pack, nAl, allocA, shId, leaves, fillA, fillR, splice, Nat.reduceLT, Nat.reduceEqDiff, Nat.reduceLeDiff, Nat.reduceAdd, Nat.reduceSub, Nat.reduceMul, Int.reduceBEq, Int.reduceBNe, Int.reduceLT, Int.reduceLE, Int.reduceEq, reduceIte, reduceCtorEq, da, int, boolA]
  by_cases h0 : n.kids.length = 0
  · have w0 : IntKind.i64.wrap ((n.kids.length : Int) - 1) = -1 := by rw [wrap_i64 (by omega)]; omega
    have g : ((0 : Int) < -1) = False := by simp
    rw [AW_loop, w0]
    unfold c44L0 c44R1
    have hs : sideP n.kids key = 0 := by rw [sideP, h0]; rfl
    simp only [↓vp, vq0, vq1, vq2, vq3, vr0, vr1, vr2, vr3, vr4, vr5, vr6, vr7, vr8, vr9, vr10, vr11, vr12, vr13, vr14, vr15, vr16, vr17, vr18, vr19, vr20, vr21, vr22, vr23, vr24, vr25, vr26, vr27, vr28, vr29, vr30, vr31, vr32, vr33, vr34, opS, fpS, okP, pack, nAl, allocA, shId, leaves, fillA, fillR, splice, Nat.reduceLT, Nat.reduceEqDiff, Nat.reduceLeDiff, Nat.reduceAdd, Nat.reduceSub, Nat.reduceMul, Int.reduceBEq, Int.reduceBNe, Int.reduceLT, Int.reduceLE, Int.reduceEq, reduceIte, reduceCtorEq, da, int, boolA, RetP_go, resT, resC, resN, retV1, retV2, retV3, retV0, frzFZ, takeM, Option.some.injEq, g]
    rw [hs]; rfl
  · refine l44 n key hn hk rfl (fun f' h5 => ?_) (n.kids.length - 1) _ (by omega) rfl ?_ ?_ ?_
    · unfold c44R1
      have g : ((sideP n.kids key : Int) < 0) = False := by simp
      simp only [↓vp, vq0, vq1, vq2, vq3, vr0, vr1, vr2, vr3, vr4, vr5, vr6, vr7, vr8, vr9, vr10, vr11, vr12, vr13, vr14, vr15, vr16, vr17, vr18, vr19, vr20, vr21, vr22, vr23, vr24, vr25, vr26, vr27, vr28, vr29, vr30, vr31, vr32, vr33, vr34, opS, fpS, okP, pack, nAl, allocA, shId, leaves, fillA, fillR, splice, Nat.reduceLT, Nat.reduceEqDiff, Nat.reduceLeDiff, Nat.reduceAdd, Nat.reduceSub, Nat.reduceMul, Int.reduceBEq, Int.reduceBNe, Int.reduceLT, Int.reduceLE, Int.reduceEq, reduceIte, reduceCtorEq, da, int, boolA, RetP_go, resT, resC, resN, retV1, retV2, retV3, retV0, frzFZ, takeM, Option.some.injEq, h5, g]
    · rfl
    · rfl
    · simp only [↓vp, vq0, vq1, vq2, vq3, vr0, vr1, vr2, vr3, vr4, vr5, vr6, vr7, vr8, vr9, vr10, vr11, vr12, vr13, vr14, vr15, vr16, vr17, vr18, vr19, vr20, vr21, vr22, vr23, vr24, vr25, vr26, vr27, vr28, vr29, vr30, vr31, vr32, vr33, vr34, opS, fpS, okP, pack, nAl, allocA, shId, leaves, fillA, fillR, splice, Nat.reduceLT, Nat.reduceEqDiff, Nat.reduceLeDiff, Nat.reduceAdd, Nat.reduceSub, Nat.reduceMul, Int.reduceBEq, Int.reduceBNe, Int.reduceLT, Int.reduceLE, Int.reduceEq, reduceIte, reduceCtorEq, da, int, boolA]
      rw [wrap_i64 (by omega)]
      congr 2
      omega
theorem k44 {n : NodeM} {key : Bytes} (hn : okN n) (hk : okB key) {K : Heap} {L : List Blk} {Q : AV → Heap → Prop} :
    KW ft (.fn (.func 44) [] []) [.agg (nodeC n), encB key] (hx K L) Q ↔ Q (int (sideP n.kids key)) (hx K L) := KW_of (s44 n key hn hk _)
theorem k46 {l : List NamedM} {ref : Int} (hl : okL l) {K : Heap} {L : List Blk} {Q : AV → Heap → Prop} :
    KW ft (.fn (.func 46) [] []) [encL l, int ref] (hx K L) Q ↔ Q (.tup [.agg (nodeC (nodeM l ref).1), int (nodeM l ref).2]) (hx K L) := KW_of (s46 l ref hl _)
theorem k47 {n : NodeM} (h1 : n.items.length ≤ 1000) (h2 : n.kids.length ≤ 1000) {K : Heap} {L : List Blk} {Q : AV → Heap → Prop} :
    KW ft (.fn (.func 47) [] []) [.agg (nodeC n)] (hx K L) Q ↔ Q (.agg (nodeC n)) (hx K L) := KW_of (s47 n h1 h2 _)
/-- No node has many parts. -/
def tinyL (l : List NamedM) : Prop := ∀ x ∈ l, x.n.items.length ≤ 1000 ∧ x.n.kids.length ≤ 1000
theorem tiny_node {l : List NamedM} (h : tinyL l) (ref : Int) : (nodeM l ref).1.items.length ≤ 1000 ∧ (nodeM l ref).1.kids.length ≤ 1000 := by
  unfold nodeM
  split
  · rename_i x hx
    exact h x (List.mem_of_find?_eq_some hx)
  · simp
theorem ok_node {l : List NamedM} (h : okL l) (ref : Int) : okN (nodeM l ref).1 := by
  unfold nodeM
  split
  · rename_i x hx
    exact h.h x (List.mem_of_find?_eq_some hx)
  · exact ⟨⟨by simp [MX], by simp⟩, ⟨by simp [MX], by simp⟩⟩
/-- The source that tells the nodes of a row. -/
def srcF (l : List NamedM) : AV := .fn (.func 45) [] [.pim [[encL l]] 0 0]
theorem s45 (l : List NamedM) (ref : Int) (hl : okL l) (ht : tinyL l) (H : Heap) : callL ft (srcF l) [int ref] H = some (.tup [.agg (nodeC (nodeM l ref).1), int (nodeM l ref).2], H) := by
  refine call_p (as' := [int ref, .pim [[encL l]] 0 0]) rfl rfl (by simp) ?_
  obtain ⟨t1, t2⟩ := tiny_node ht ref
  have hp : ∀ (H : Heap), cellsAt H (.pim [[encL l]] 0 0) 1 = some [encL l] := fun _ => rfl
  have k46' := fun K L Q => k46 (ref := ref) hl (K := K) (L := L) (Q := Q)
  unfold c45 r45
  simp only [int] at k46'
  simp only [↓vp, vq0, vq1, vq2, vq3, vr0, vr1, vr2, vr3, vr4, vr5, vr6, vr7, vr8, vr9, vr10, vr11, vr12, vr13, vr14, vr15, vr16, vr17, vr18, vr19, vr20, vr21, vr22, vr23, vr24, vr25, vr26, vr27, vr28, vr29, vr30, vr31, vr32, vr33, vr34, opS, fpS, okP, pack, nAl, allocA, shId, leaves, fillA, fillR, splice, Nat.reduceLT, Nat.reduceEqDiff, Nat.reduceLeDiff, Nat.reduceAdd, Nat.reduceSub, Nat.reduceMul, Int.reduceBEq, Int.reduceBNe, Int.reduceLT, Int.reduceLE, Int.reduceEq, reduceIte, reduceCtorEq, da, int, boolA, RetP_go, resT, resC, resN, retV1, retV2, retV3, retV0, frzFZ, takeM, Option.some.injEq, hp, k46', k47, t1, t2]
theorem k45 {l : List NamedM} {ref : Int} (hl : okL l) (ht : tinyL l) {K : Heap} {L : List Blk} {Q : AV → Heap → Prop} :
    KW ft (srcF l) [int ref] (hx K L) Q ↔ Q (.tup [.agg (nodeC (nodeM l ref).1), int (nodeM l ref).2]) (hx K L) := KW_of (s45 l ref hl ht _)
theorem s17 (l : List NamedM) (H : Heap) : callL ft (.fn (.func 17) [] []) [encL l] H = some (srcF l, H) := by
  refine call_p (as' := [encL l]) rfl rfl (by simp) ?_
  unfold c17 r17 srcF
  simp only [↓vp, vq0, vq1, vq2, vq3, vr0, vr1, vr2, vr3, vr4, vr5, vr6, vr7, vr8, vr9, vr10, vr11, vr12, vr13, vr14, vr15, vr16, vr17, vr18, vr19, vr20, vr21, vr22, vr23, vr24, vr25, vr26, vr27, vr28, vr29, vr30, vr31, vr32, vr33, vr34, opS, fpS, okP, pack, nAl, allocA, shId, leaves, fillA, fillR, splice, Nat.reduceLT, Nat.reduceEqDiff, Nat.reduceLeDiff, Nat.reduceAdd, Nat.reduceSub, Nat.reduceMul, Int.reduceBEq, Int.reduceBNe, Int.reduceLT, Int.reduceLE, Int.reduceEq, reduceIte, reduceCtorEq, da, int, boolA, RetP_go, resT, resC, resN, retV1, retV2, retV3, retV0, frzFZ, takeM, Option.some.injEq]
theorem k17 {l : List NamedM} {K : Heap} {L : List Blk} {Q : AV → Heap → Prop} : KW ft (.fn (.func 17) [] []) [encL l] (hx K L) Q ↔ Q (srcF l) (hx K L) := KW_of (s17 l _)
/-- By a key. -/
def byKey (key : Bytes) : AV := .fn (.func 42) [] [.pim [[encB key]] 0 0]
def pathK (key : Bytes) (n : NodeM) : Int := if n.leaf then bsM n.items key else sideP n.kids key
theorem s42 (key : Bytes) (n : NodeM) (hn : okN n) (hl2 : n.items.length < 4000000000000000000) (hk : okB key) (H : Heap) : callL ft (byKey key) [.agg (nodeC n)] H = some (int (pathK key n), H) := by
  refine call_p (as' := [.agg (nodeC n), .pim [[encB key]] 0 0]) rfl rfl (by simp) ?_
  have hp : ∀ (H : Heap), cellsAt H (.pim [[encB key]] 0 0) 1 = some [encB key] := fun _ => rfl
  unfold c42 r42 pathK
  cases e : n.leaf with
  | true => simp only [↓vp, vq0, vq1, vq2, vq3, vr0, vr1, vr2, vr3, vr4, vr5, vr6, vr7, vr8, vr9, vr10, vr11, vr12, vr13, vr14, vr15, vr16, vr17, vr18, vr19, vr20, vr21, vr22, vr23, vr24, vr25, vr26, vr27, vr28, vr29, vr30, vr31, vr32, vr33, vr34, opS, fpS, okP, pack, nAl, allocA, shId, leaves, fillA, fillR, splice, Nat.reduceLT, Nat.reduceEqDiff, Nat.reduceLeDiff, Nat.reduceAdd, Nat.reduceSub, Nat.reduceMul, Int.reduceBEq, Int.reduceBNe, Int.reduceLT, Int.reduceLE, Int.reduceEq, reduceIte, reduceCtorEq, da, int, boolA, RetP_go, resT, resC, resN, retV1, retV2, retV3, retV0, frzFZ, takeM, Option.some.injEq, hp, e, k43, hn, hl2, hk]
  | false => simp only [↓vp, vq0, vq1, vq2, vq3, vr0, vr1, vr2, vr3, vr4, vr5, vr6, vr7, vr8, vr9, vr10, vr11, vr12, vr13, vr14, vr15, vr16, vr17, vr18, vr19, vr20, vr21, vr22, vr23, vr24, vr25, vr26, vr27, vr28, vr29, vr30, vr31, vr32, vr33, vr34, opS, fpS, okP, pack, nAl, allocA, shId, leaves, fillA, fillR, splice, Nat.reduceLT, Nat.reduceEqDiff, Nat.reduceLeDiff, Nat.reduceAdd, Nat.reduceSub, Nat.reduceMul, Int.reduceBEq, Int.reduceBNe, Int.reduceLT, Int.reduceLE, Int.reduceEq, reduceIte, reduceCtorEq, da, int, boolA, RetP_go, resT, resC, resN, retV1, retV2, retV3, retV0, frzFZ, takeM, Option.some.injEq, hp, e, k44, hn, hl2, hk]
theorem k42 {key : Bytes} {n : NodeM} (hn : okN n) (hl2 : n.items.length < 4000000000000000000) (hk : okB key) {K : Heap} {L : List Blk} {Q : AV → Heap → Prop} :
    KW ft (byKey key) [.agg (nodeC n)] (hx K L) Q ↔ Q (int (pathK key n)) (hx K L) := KW_of (s42 key n hn hl2 hk _)
/-- To an edge. -/
def toEdge (last : Bool) : AV := .fn (.func 51) [] [.pim [[boolA last]] 0 0]
def edgeK (last : Bool) (n : NodeM) : Int := if last then (if n.leaf then (if n.items.length = 0 then 0 else n.items.length - 1) else n.kids.length - 1) else 0
theorem s51 (last : Bool) (n : NodeM) (hn : okN n) (H : Heap) : callL ft (toEdge last) [.agg (nodeC n)] H = some (int (edgeK last n), H) := by
  refine call_p (as' := [.agg (nodeC n), .pim [[boolA last]] 0 0]) rfl rfl (by simp) ?_
  have hp : ∀ (H : Heap), cellsAt H (.pim [[boolA last]] 0 0) 1 = some [boolA last] := fun _ => rfl
  have h1 := hn.i.n
  have h2 := hn.k.n
  unfold MX at h1 h2
  have w1 : IntKind.i64.wrap ((n.items.length : Int) - 1) = (n.items.length : Int) - 1 := wrap_i64 (by omega)
  have w2 : IntKind.i64.wrap ((n.kids.length : Int) - 1) = (n.kids.length : Int) - 1 := wrap_i64 (by omega)
  unfold c51 r51 edgeK
  simp only [boolA] at hp
  cases last with
  | false => simp only [↓vp, vq0, vq1, vq2, vq3, vr0, vr1, vr2, vr3, vr4, vr5, vr6, vr7, vr8, vr9, vr10, vr11, vr12, vr13, vr14, vr15, vr16, vr17, vr18, vr19, vr20, vr21, vr22, vr23, vr24, vr25, vr26, vr27, vr28, vr29, vr30, vr31, vr32, vr33, vr34, opS, fpS, okP, pack, nAl, allocA, shId, leaves, fillA, fillR, splice, Nat.reduceLT, Nat.reduceEqDiff, Nat.reduceLeDiff, Nat.reduceAdd, Nat.reduceSub, Nat.reduceMul, Int.reduceBEq, Int.reduceBNe, Int.reduceLT, Int.reduceLE, Int.reduceEq, reduceIte, reduceCtorEq, da, int, boolA, RetP_go, resT, resC, resN, retV1, retV2, retV3, retV0, frzFZ, takeM, Option.some.injEq, hp]
  | true =>
    cases e : n.leaf with
    | true =>
      by_cases h0 : n.items.length = 0
      · have g : (((n.items.length : Int) - 1) < 0) = True := eq_true (by omega)
        simp only [↓vp, vq0, vq1, vq2, vq3, vr0, vr1, vr2, vr3, vr4, vr5, vr6, vr7, vr8, vr9, vr10, vr11, vr12, vr13, vr14, vr15, vr16, vr17, vr18, vr19, vr20, vr21, vr22, vr23, vr24, vr25, vr26, vr27, vr28, vr29, vr30, vr31, vr32, vr33, vr34, opS, fpS, okP, pack, nAl, allocA, shId, leaves, fillA, fillR, splice, Nat.reduceLT, Nat.reduceEqDiff, Nat.reduceLeDiff, Nat.reduceAdd, Nat.reduceSub, Nat.reduceMul, Int.reduceBEq, Int.reduceBNe, Int.reduceLT, Int.reduceLE, Int.reduceEq, reduceIte, reduceCtorEq, da, int, boolA, RetP_go, resT, resC, resN, retV1, retV2, retV3, retV0, frzFZ, takeM, Option.some.injEq, hp, e, w1, g, if_pos h0]
      · have g : (((n.items.length : Int) - 1) < 0) = False := eq_false (by omega)
        simp only [↓vp, vq0, vq1, vq2, vq3, vr0, vr1, vr2, vr3, vr4, vr5, vr6, vr7, vr8, vr9, vr10, vr11, vr12, vr13, vr14, vr15, vr16, vr17, vr18, vr19, vr20, vr21, vr22, vr23, vr24, vr25, vr26, vr27, vr28, vr29, vr30, vr31, vr32, vr33, vr34, opS, fpS, okP, pack, nAl, allocA, shId, leaves, fillA, fillR, splice, Nat.reduceLT, Nat.reduceEqDiff, Nat.reduceLeDiff, Nat.reduceAdd, Nat.reduceSub, Nat.reduceMul, Int.reduceBEq, Int.reduceBNe, Int.reduceLT, Int.reduceLE, Int.reduceEq, reduceIte, reduceCtorEq, da, int, boolA, RetP_go, resT, resC, resN, retV1, retV2, retV3, retV0, frzFZ, takeM, Option.some.injEq, hp, e, w1, g, if_neg h0]
    | false => simp only [↓vp, vq0, vq1, vq2, vq3, vr0, vr1, vr2, vr3, vr4, vr5, vr6, vr7, vr8, vr9, vr10, vr11, vr12, vr13, vr14, vr15, vr16, vr17, vr18, vr19, vr20, vr21, vr22, vr23, vr24, vr25, vr26, vr27, vr28, vr29, vr30, vr31, vr32, vr33, vr34, opS, fpS, okP, pack, nAl, allocA, shId, leaves, fillA, fillR, splice, Nat.reduceLT, Nat.reduceEqDiff, Nat.reduceLeDiff, Nat.reduceAdd, Nat.reduceSub, Nat.reduceMul, Int.reduceBEq, Int.reduceBNe, Int.reduceLT, Int.reduceLE, Int.reduceEq, reduceIte, reduceCtorEq, da, int, boolA, RetP_go, resT, resC, resN, retV1, retV2, retV3, retV0, frzFZ, takeM, Option.some.injEq, hp, e, w2]
theorem k51 {last : Bool} {n : NodeM} (hn : okN n) {K : Heap} {L : List Blk} {Q : AV → Heap → Prop} :
    KW ft (toEdge last) [.agg (nodeC n)] (hx K L) Q ↔ Q (int (edgeK last n)) (hx K L) := KW_of (s51 last n hn _)
end Go.VI

set_option linter.unusedVariables false
set_option linter.unusedSimpArgs false
set_option maxRecDepth 100000
namespace Go.VI
attribute [local congr] AW_congr OW_congr DW_congr NW_congr VW_congr GW_congr PW_congr KW_congr ite_congr' GV_congr CV_congr
/-- What a choice must be. -/
structure Choice (kv : AV) (kf : NodeM → Int) : Prop where
  call : ∀ (n : NodeM), okN n → n.items.length ≤ 1000 → ∀ (K : Heap) (L : List Blk) (Q : AV → Heap → Prop), KW ft kv [.agg (nodeC n)] (hx K L) Q ↔ Q (int (kf n)) (hx K L)
  free : ∀ n, pureV ft kv [.agg (nodeC n)] = true
  rng : ∀ n, okN n → n.leaf = false → 0 < n.kids.length → ∃ j : Nat, kf n = j ∧ j < n.kids.length
theorem n_take (n : NodeM) (l : List AV) : (nodeC n ++ l).take 3 = nodeC n := rfl
theorem n_drop (n : NodeM) (a : AV) : (nodeC n ++ [a]).drop 4 = [] := rfl
theorem n_take4 (n : NodeM) (a : AV) : (nodeC n ++ [a]).take 4 = nodeC n ++ [a] := rfl
theorem n_drop3 (n : NodeM) (a : AV) : (nodeC n ++ [a]).drop 3 = [a] := rfl
theorem n_onea (n : NodeM) (v : Value) : oneAll (nodeC n ++ [AV.sc v]) = true := rfl
theorem zna (m : Nat) (H : Heap) (n : NodeM) (k : Int) : frz.frzL (m + 6) H (nodeC n ++ [AV.sc (.int .i64 k)]) = some (nodeC n ++ [AV.sc (.int .i64 k)], H) := rfl
theorem frz_rep {K : Heap} {L : List Blk} {sz : Nat} {S : AV} {rows : List (List AV)} (h : Rep (hx K L) sz S rows) (n : Nat) : ∃ K', frz (n + 1) (hx K L) S = some (.lst rows, K') := by
  rcases h with ⟨rfl, rfl⟩ | ⟨id, rfl, h⟩
  · exact ⟨_, rfl⟩
  · refine ⟨(hx K L).set id (.row true sz rows), ?_⟩
    rw [frz_sl, h]
    simp
end Go.VI

set_option linter.unusedVariables false
set_option linter.unusedSimpArgs false
set_option maxRecDepth 100000
namespace Go.VI
attribute [local congr] AW_congr OW_congr DW_congr NW_congr VW_congr GW_congr PW_congr KW_congr ite_congr' GV_congr CV_congr
theorem sideD_le (l : List KidM) (key : Bytes) : ∀ k, sideD l key k ≤ k
  | 0 => Nat.le_refl _
  | k + 1 => by
    rw [sideD]
    split
    · exact Nat.le_succ_of_le (sideD_le l key k)
    · exact Nat.le_refl _
theorem choice_key {key : Bytes} (hk : okB key) : Choice (byKey key) (pathK key) where
  call := fun n hn h1 K L Q => k42 hn (by omega) hk
  free := fun n => rfl
  rng := fun n hn hl h0 => ⟨sideP n.kids key, by rw [pathK, hl]; rfl, by
    have := sideD_le n.kids key (n.kids.length - 1)
    unfold sideP
    omega⟩
theorem choice_edge (last : Bool) : Choice (toEdge last) (edgeK last) where
  call := fun n hn h1 K L Q => k51 hn
  free := fun n => rfl
  rng := fun n hn hl h0 => by
    cases last with
    | false => exact ⟨0, rfl, h0⟩
    | true => exact ⟨n.kids.length - 1, by rw [edgeK, hl]; simp; omega, by omega⟩
end Go.VI

set_option linter.unusedVariables false
set_option linter.unusedSimpArgs false
set_option maxRecDepth 100000
namespace Go.VI
attribute [local congr] AW_congr OW_congr DW_congr NW_congr VW_congr GW_congr PW_congr KW_congr ite_congr' GV_congr CV_congr
theorem szS : ∀ (l : List StepM), allSz 5 (l.map stepC) = true
  | [] => rfl
  | x :: l => by rw [List.map_cons, allSz_cons, szS l]; rfl
end Go.VI

set_option linter.unusedVariables false
set_option linter.unusedSimpArgs false
set_option maxRecDepth 100000
namespace Go.VI
attribute [local congr] AW_congr OW_congr DW_congr NW_congr VW_congr GW_congr PW_congr KW_congr ite_congr' GV_congr CV_congr
def risI : List ItemM → Bool
  | x :: y :: r => decide (cmpB x.key y.key < 0) && risI (y :: r)
  | _ => true
end Go.VI

set_option linter.unusedVariables false
set_option linter.unusedSimpArgs false
namespace Go.VI
theorem cmpB_refl : ∀ a : Bytes, cmpB a a = 0
  | [] => rfl
  | x :: a => by simp [cmpB, cmpB_refl a]
theorem cmpB_swap : ∀ a b : Bytes, cmpB b a = - cmpB a b
  | [], [] => rfl
  | [], _ :: _ => rfl
  | _ :: _, [] => rfl
  | x :: a, y :: b => by
    simp only [cmpB]
    by_cases h1 : x < y
    · have h2 : ¬ y < x := by omega
      simp [h1, h2]
    · by_cases h2 : y < x
      · simp [h1, h2]
      · simp [h1, h2, cmpB_swap a b]
theorem cmpB_trans : ∀ a b c : Bytes, cmpB a b < 0 → cmpB b c ≤ 0 → cmpB a c < 0
  | [], [], c, h, _ => by simp [cmpB] at h
  | [], _ :: _, [], _, h => by simp [cmpB] at h
  | [], _ :: _, _ :: _, _, _ => by simp [cmpB]
  | _ :: _, [], c, h, _ => by simp [cmpB] at h
  | x :: a, y :: b, [], _, h => by simp [cmpB] at h
  | x :: a, y :: b, z :: c, h, k => by
    simp only [cmpB] at h k ⊢
    by_cases h1 : x < y
    · by_cases h2 : y < z
      · rw [if_pos (by omega)]; decide
      · rw [if_neg h2] at k
        by_cases h3 : z < y
        · rw [if_pos h3] at k; exact absurd k (by decide)
        · rw [if_pos (by omega)]; decide
    · rw [if_neg h1] at h
      by_cases h4 : y < x
      · rw [if_pos h4] at h; exact absurd h (by decide)
      · rw [if_neg h4] at h
        by_cases h2 : y < z
        · rw [if_pos (by omega)]; decide
        · rw [if_neg h2] at k
          by_cases h3 : z < y
          · rw [if_pos h3] at k; exact absurd k (by decide)
          · rw [if_neg h3] at k
            rw [if_neg (by omega), if_neg (by omega)]
            exact cmpB_trans a b c h k
theorem findM_cons (x : ItemM) (l : List ItemM) (key : Bytes) : (findM (x :: l) key).1 = (if cmpB x.key key < 0 then 1 else 0) + (findM l key).1 := by
  have gen : ∀ (l : List ItemM) (a : Int) (b : Bool), (l.foldl (fun p x => (if cmpB x.key key < 0 then p.1 + 1 else p.1, p.2 || cmpB x.key key == 0)) (a, b)).1 = a + (l.foldl (fun p x => (if cmpB x.key key < 0 then p.1 + 1 else p.1, p.2 || cmpB x.key key == 0)) ((0 : Int), false)).1 := by
    intro l
    induction l with
    | nil => intro a b; simp
    | cons y l ih =>
      intro a b
      simp only [List.foldl_cons]
      rw [ih, ih (if cmpB y.key key < 0 then 0 + 1 else 0)]
      split <;> omega
  unfold findM
  rw [List.foldl_cons, gen]
  split <;> simp
theorem risI_head {x : ItemM} : ∀ {l : List ItemM}, risI (x :: l) = true → ∀ (i : Nat) (h : i < l.length), cmpB x.key l[i].key < 0
  | [], _, i, h => by simp at h
  | y :: l, hr, i, h => by
    simp only [risI, Bool.and_eq_true, decide_eq_true_eq] at hr
    cases i with
    | zero => exact hr.1
    | succ i =>
      have := risI_head (x := y) (l := l) hr.2 i (by simpa using h)
      exact cmpB_trans _ _ _ hr.1 (by simpa using Int.le_of_lt this)
theorem risI_tail {x : ItemM} {l : List ItemM} (h : risI (x :: l) = true) : risI l = true := by
  cases l with
  | nil => rfl
  | cons y l =>
    simp only [risI, Bool.and_eq_true] at h
    exact h.2
/-- How many are below: a beginning. -/
theorem cnt_spec (key : Bytes) : ∀ (l : List ItemM), risI l = true → ∃ c : Nat, (findM l key).1 = c ∧ c ≤ l.length ∧ ∀ (i : Nat) (h : i < l.length), i < c ↔ cmpB l[i].key key < 0
  | [], _ => ⟨0, rfl, Nat.le_refl _, fun i h => by simp at h⟩
  | x :: l, hr => by
    obtain ⟨c, h1, h2, h3⟩ := cnt_spec key l (risI_tail hr)
    by_cases hx : cmpB x.key key < 0
    · refine ⟨c + 1, ?_, by simp; omega, fun i h => ?_⟩
      · rw [findM_cons, if_pos hx, h1]; omega
      · cases i with
        | zero => simp [hx]
        | succ i =>
          rw [List.getElem_cons_succ, ← h3 i (by simpa using h)]
          omega
    · have hc : c = 0 := by
        cases c with
        | zero => rfl
        | succ c =>
          exfalso
          have h0 : 0 < l.length := by omega
          have := (h3 0 h0).1 (by omega)
          exact hx (cmpB_trans _ _ _ (risI_head hr 0 h0) (Int.le_of_lt this))
      subst hc
      refine ⟨0, ?_, by simp, fun i h => ?_⟩
      · rw [findM_cons, if_neg hx, h1]; rfl
      · cases i with
        | zero => simp [hx]
        | succ i =>
          have := h3 i (by simpa using h)
          rw [List.getElem_cons_succ, ← this]
          omega
theorem bsG_spec (l : List ItemM) (key : Bytes) (c : Nat) (hc : ∀ (i : Nat) (h : i < l.length), i < c ↔ cmpB l[i].key key < 0) : ∀ (n i j : Nat), j < i + n → i ≤ c → c ≤ j → j ≤ l.length → bsG l key n i j = c
  | 0, i, j, hn, h1, h2, _ => by omega
  | n + 1, i, j, hn, h1, h2, h3 => by
    rw [bsG]
    by_cases hlt : i < j
    · have gi : (i + j) / 2 < l.length := by omega
      rw [if_pos hlt, List.getElem?_eq_getElem gi, Option.elim_some]
      split
      · rename_i hl
        have := (hc _ gi).2 hl
        exact bsG_spec l key c hc n _ j (by omega) (by omega) h2 h3
      · rename_i hl
        have : ¬ (i + j) / 2 < c := fun h => hl ((hc _ gi).1 h)
        exact bsG_spec l key c hc n i _ (by omega) h1 (by omega) (by omega)
    · rw [if_neg hlt]; omega
theorem bsM_findM (l : List ItemM) (key : Bytes) (hr : risI l = true) : (bsM l key : Int) = (findM l key).1 := by
  obtain ⟨c, h1, h2, h3⟩ := cnt_spec key l hr
  rw [h1, bsM, bsG_spec l key c h3 (l.length + 1) 0 l.length (by omega) (by omega) h2 (Nat.le_refl _)]
end Go.VI

set_option linter.unusedVariables false
set_option linter.unusedSimpArgs false
set_option maxRecDepth 100000
namespace Go.VI
attribute [local congr] AW_congr OW_congr DW_congr NW_congr VW_congr GW_congr PW_congr KW_congr ite_congr' GV_congr CV_congr
theorem sumM_ge : ∀ (l : List NamedM) (s : Int), 0 ≤ s → s + l.length * 281474976710656 < 9223372036854775807 → (∀ x ∈ l, x.n.items.length < MX ∧ x.n.kids.length < MX) →
    s ≤ sumM s l ∧ ∀ x ∈ l, s + x.n.items.length + x.n.kids.length ≤ sumM s l
  | [], s, _, _, _ => ⟨Int.le_refl _, by simp⟩
  | y :: l, s, hs, hb, h => by
    obtain ⟨h1, h2⟩ := h y List.mem_cons_self
    unfold MX at h1 h2
    simp only [List.length_cons] at hb
    have e1 : IntKind.i64.wrap ((y.n.items.length : Int) + y.n.kids.length) = (y.n.items.length : Int) + y.n.kids.length := wrap_i64 (by omega)
    have e2 : IntKind.i64.wrap (s + ((y.n.items.length : Int) + y.n.kids.length)) = s + ((y.n.items.length : Int) + y.n.kids.length) := wrap_i64 (by omega)
    rw [sumM, e1, e2]
    obtain ⟨a, b⟩ := sumM_ge l (s + ((y.n.items.length : Int) + y.n.kids.length)) (by omega) (by omega) (fun x hx => h x (List.mem_cons_of_mem _ hx))
    refine ⟨by omega, fun x hx => ?_⟩
    rcases List.mem_cons.1 hx with rfl | hx
    · omega
    · have := b x hx
      omega
theorem few_tiny {l : List NamedM} (hl : okL l) (h : fewM l = true) : tinyL l := by
  simp only [fewM, Bool.and_eq_true, decide_eq_true_eq] at h
  obtain ⟨_, b⟩ := sumM_ge l 0 (Int.le_refl _) (by omega) (fun x hx => ⟨(hl.h x hx).i.n, (hl.h x hx).k.n⟩)
  intro x hx
  have := b x hx
  omega
end Go.VI

set_option linter.unusedVariables false
set_option linter.unusedSimpArgs false
set_option maxRecDepth 100000
namespace Go.VI
attribute [local congr] AW_congr OW_congr DW_congr NW_congr VW_congr GW_congr PW_congr KW_congr ite_congr' GV_congr CV_congr
/-- alive() tells true. -/
def Alive (k : FuncId) : Prop := ∀ (K : Heap) (L : List Blk) (Q : AV → Heap → Prop), KW ft (.fn (.func k) [] []) [] (hx K L) Q ↔ Q (boolA true) (hx K L)
theorem ok_nil : okB [] := ⟨by decide, rfl⟩
end Go.VI

set_option linter.unusedVariables false
set_option linter.unusedSimpArgs false
set_option maxRecDepth 100000
namespace Go.VI
attribute [local congr] AW_congr OW_congr DW_congr NW_congr VW_congr GW_congr PW_congr KW_congr ite_congr' GV_congr CV_congr
def kill (K : Heap) : AV → Heap
  | .sl id _ _ => K.set id .dead
  | _ => K
theorem kill_next (K : Heap) (S : AV) : (kill K S).next = K.next := by
  unfold kill
  split
  · exact Heap.next_set _ _ _
  · rfl
theorem kill_get {K : Heap} {S : AV} {sz : Nat} {rows : List (List AV)} (h : Rep K sz S rows) {j : Nat} {b : Blk} (hj : K.get j = some b) (hb : ∀ r, b ≠ .row false sz r) : (kill K S).get j = some b := by
  rcases h with ⟨rfl, _⟩ | ⟨id, rfl, hr⟩
  · exact hj
  · have : j ≠ id := fun e => by
      subst e
      rw [hj] at hr
      exact hb _ (Option.some.inj hr)
    show (K.set id .dead).get j = _
    rw [Heap.get_set_ne _ this, hj]
theorem appA_rep {K : Heap} {S : AV} {sz bytes nid : Nat} {rows : List (List AV)} (h : Rep K sz S rows) {xs : List (List AV)} (h0 : xs ≠ []) (hs : allSz sz xs = true) (hb : (rows.length + xs.length) * bytes ≤ 140737488355328) (L : List Blk) :
    appA nid (hx K L) sz bytes S xs = some (.sl nid 0 (rows.length + xs.length), (hx (kill K S) L).put nid (.row false sz (rows ++ xs))) := by
  have hl : xs.length ≠ 0 := fun e => h0 (List.eq_nil_of_length_eq_zero e)
  rcases h with ⟨rfl, rfl⟩ | ⟨id, rfl, hr⟩
  · rw [appA_nil, if_neg hl, if_pos ⟨by simpa using hb, hs⟩]
    simp [kill]
  · have lid := Heap.get_lt hr
    rw [appA_sl, hx_get_old K L id lid, hr]
    simp only
    rw [if_pos ⟨by trivial, by omega, hb, hs⟩, hx_set_old K L _ id lid, List.drop_zero, List.take_of_length_le (Nat.le_refl _)]
    rfl
theorem kill_old {K : Heap} {S : AV} {sz : Nat} {rows : List (List AV)} (h : Rep K sz S rows) {j : Nat} {b : Blk} (hj : K.get j = some b) (hb : ∀ r, b ≠ .row false sz r) (L : List Blk) : (hx (kill K S) L).get j = some b := by
  rw [hx_get_old _ _ _ (by rw [kill_next]; exact Heap.get_lt hj)]
  exact kill_get h hj hb
theorem get_old {K : Heap} {j : Nat} {b : Blk} (hj : K.get j = some b) (L : List Blk) : (hx K L).get j = some b := by
  rw [hx_get_old _ _ _ (Heap.get_lt hj), hj]
def keyC (b : Bytes) : List AV := [encB b]
def encKs (l : List Bytes) : AV := .lst (l.map keyC)
def keysM (n : NodeM) : List Bytes := n.items.map (·.key) ++ (n.kids.drop 1).map (·.key)
theorem len_keyC (b : Bytes) : (keyC b).length = 1 := rfl
theorem rep_take {α : Type} (g : α → List AV) {l : List α} {i : Nat} (h : i < l.length) : (l.take (i + 1)).map g = (l.take i).map g ++ [g l[i]] := by
  rw [List.take_succ_eq_append_getElem h, List.map_append]; rfl
theorem l70a (n : NodeM) (hs : n.items.length ≤ 1000) {Q : AExit → Env → Heap → Prop}
   (hex : ∀ f' K S, Rep K 1 S (n.items.map fun x => keyC x.key) → K.get 0 = some (.box false (nodeC n)) → f' 1 = .ptr 0 0 0 → f' 3 = S → Q (.exit 0) (mkE 38 f') (hx K [])) :
   ∀ (d i : Nat) (S : AV) (K : Heap) (f : Nat → AV), i + d = n.items.length → Rep K 1 S ((n.items.take i).map fun x => keyC x.key) → K.get 0 = some (.box false (nodeC n)) →
    f 1 = .ptr 0 0 0 → f 3 = S → f 9 = encI n.items → f 10 = int n.items.length → f 11 = int i →
    AW ft (.loop c70L0) (mkE 38 f) (hx K []) Q := by
  intro d
  induction d with
  | zero =>
    intro i S K f hd hr k0 h1 h3 h9 h10 h11
    have g : ((i : Int) < n.items.length) = False := by simp; omega
    rw [AW_loop]
    unfold c70L0
    rw [List.take_of_length_le (by omega)] at hr
    simp only [↓vp, vq0, vq1, vq2, vq3, vr0, vr1, vr2, vr3, vr4, vr5, vr6, vr7, vr8, vr9, vr10, vr11, vr12, vr13, vr14, vr15, vr16, vr17, vr18, vr19, vr20, vr21, vr22, vr23, vr24, vr25, vr26, vr27, vr28, vr29, vr30, vr31, vr32, vr33, vr34, opS, fpS, okP, pack, nAl, allocA, shId, leaves, fillA, fillR, splice, Nat.reduceLT, Nat.reduceEqDiff, Nat.reduceLeDiff, Nat.reduceAdd, Nat.reduceSub, Nat.reduceMul, Int.reduceBEq, Int.reduceBNe, Int.reduceLT, Int.reduceLE, Int.reduceEq, reduceIte, reduceCtorEq, da, int, boolA, h10, h11, g]
    refine hex _ K S hr k0 ?_ ?_ <;> simp only [↓vp, vq0, vq1, vq2, vq3, vr0, vr1, vr2, vr3, vr4, vr5, vr6, vr7, vr8, vr9, vr10, vr11, vr12, vr13, vr14, vr15, vr16, vr17, vr18, vr19, vr20, vr21, vr22, vr23, vr24, vr25, vr26, vr27, vr28, vr29, vr30, vr31, vr32, vr33, vr34, opS, fpS, okP, pack, nAl, allocA, shId, leaves, fillA, fillR, splice, Nat.reduceLT, Nat.reduceEqDiff, Nat.reduceLeDiff, Nat.reduceAdd, Nat.reduceSub, Nat.reduceMul, Int.reduceBEq, Int.reduceBNe, Int.reduceLT, Int.reduceLE, Int.reduceEq, reduceIte, reduceCtorEq, da, int, boolA, h1, h3]
  | succ d ih =>
    intro i S K f hd hr k0 h1 h3 h9 h10 h11
    have g : ((i : Int) < n.items.length) = True := by simp; omega
    have gi : i < n.items.length := by omega
    have w1 := wrap_succ (show i < 9223372036854775807 by omega)
    have ht := rep_take (fun x : ItemM => keyC x.key) gi
    have hlen : ((n.items.take i).map fun x => keyC x.key).length = i := by simp; omega
    have ap := fun nid L => appA_rep (nid := nid) (bytes := 24) hr (xs := [keyC n.items[i].key]) (by simp) rfl (by rw [hlen]; simp; omega) L
    rw [AW_loop]
    unfold c70L0
    simp only [keyC] at ap
    have hlt : (n.items.take i).length = i := by simp; omega
    simp only [↓vp, vq0, vq1, vq2, vq3, vr0, vr1, vr2, vr3, vr4, vr5, vr6, vr7, vr8, vr9, vr10, vr11, vr12, vr13, vr14, vr15, vr16, vr17, vr18, vr19, vr20, vr21, vr22, vr23, vr24, vr25, vr26, vr27, vr28, vr29, vr30, vr31, vr32, vr33, vr34, opS, fpS, okP, pack, nAl, allocA, shId, leaves, fillA, fillR, splice, Nat.reduceLT, Nat.reduceEqDiff, Nat.reduceLeDiff, Nat.reduceAdd, Nat.reduceSub, Nat.reduceMul, Int.reduceBEq, Int.reduceBNe, Int.reduceLT, Int.reduceLE, Int.reduceEq, reduceIte, reduceCtorEq, da, int, boolA, h1, h3, h9, h10, h11, g, atI gi, cI gi, ap, kill_next, w1, hlt]
    rw [← hx_nil (hx _ _)]
    refine ih (i + 1) (.sl (K.next + 2) 0 (i + 1)) _ _ (by omega) (.inr ⟨K.next + 2, ?_, ?_⟩) (kill_old hr k0 (fun r h => by cases h) _) ?_ ?_ ?_ ?_ ?_
    · rw [ht, List.length_append, hlen]
      rfl
    · rw [ht]
      simp only [↓vp, vq0, vq1, vq2, vq3, vr0, vr1, vr2, vr3, vr4, vr5, vr6, vr7, vr8, vr9, vr10, vr11, vr12, vr13, vr14, vr15, vr16, vr17, vr18, vr19, vr20, vr21, vr22, vr23, vr24, vr25, vr26, vr27, vr28, vr29, vr30, vr31, vr32, vr33, vr34, opS, fpS, okP, pack, nAl, allocA, shId, leaves, fillA, fillR, splice, Nat.reduceLT, Nat.reduceEqDiff, Nat.reduceLeDiff, Nat.reduceAdd, Nat.reduceSub, Nat.reduceMul, Int.reduceBEq, Int.reduceBNe, Int.reduceLT, Int.reduceLE, Int.reduceEq, reduceIte, reduceCtorEq, kill_next]
      rfl
    all_goals simp only [↓vp, vq0, vq1, vq2, vq3, vr0, vr1, vr2, vr3, vr4, vr5, vr6, vr7, vr8, vr9, vr10, vr11, vr12, vr13, vr14, vr15, vr16, vr17, vr18, vr19, vr20, vr21, vr22, vr23, vr24, vr25, vr26, vr27, vr28, vr29, vr30, vr31, vr32, vr33, vr34, opS, fpS, okP, pack, nAl, allocA, shId, leaves, fillA, fillR, splice, Nat.reduceLT, Nat.reduceEqDiff, Nat.reduceLeDiff, Nat.reduceAdd, Nat.reduceSub, Nat.reduceMul, Int.reduceBEq, Int.reduceBNe, Int.reduceLT, Int.reduceLE, Int.reduceEq, reduceIte, reduceCtorEq, da, int, boolA, h1, h9, h10, hlt]
theorem l70b (n : NodeM) (hs : n.kids.length ≤ 1000) (rows : List (List AV)) (hrw : rows.length ≤ 1000) {Q : AExit → Env → Heap → Prop}
   (hex : ∀ f' K S, Rep K 1 S (rows ++ ((n.kids.drop 1).map fun x => keyC x.key)) → f' 3 = S → Q (.exit 2) (mkE 38 f') (hx K [])) :
   ∀ (d i : Nat) (S : AV) (K : Heap) (f : Nat → AV), i + d = n.kids.length → Rep K 1 S (rows ++ (((n.kids.take i).drop 1).map fun x => keyC x.key)) →
    f 3 = S → f 22 = encK n.kids → f 23 = int n.kids.length → f 24 = int i →
    AW ft (.loop c70L1) (mkE 38 f) (hx K []) Q := by
  intro d
  induction d with
  | zero =>
    intro i S K f hd hr h3 h9 h10 h11
    have g : ((i : Int) < n.kids.length) = False := by simp; omega
    rw [AW_loop]
    unfold c70L1
    rw [List.take_of_length_le (by omega)] at hr
    simp only [↓vp, vq0, vq1, vq2, vq3, vr0, vr1, vr2, vr3, vr4, vr5, vr6, vr7, vr8, vr9, vr10, vr11, vr12, vr13, vr14, vr15, vr16, vr17, vr18, vr19, vr20, vr21, vr22, vr23, vr24, vr25, vr26, vr27, vr28, vr29, vr30, vr31, vr32, vr33, vr34, opS, fpS, okP, pack, nAl, allocA, shId, leaves, fillA, fillR, splice, Nat.reduceLT, Nat.reduceEqDiff, Nat.reduceLeDiff, Nat.reduceAdd, Nat.reduceSub, Nat.reduceMul, Int.reduceBEq, Int.reduceBNe, Int.reduceLT, Int.reduceLE, Int.reduceEq, reduceIte, reduceCtorEq, da, int, boolA, h10, h11, g]
    refine hex _ K S hr ?_
    simp only [↓vp, vq0, vq1, vq2, vq3, vr0, vr1, vr2, vr3, vr4, vr5, vr6, vr7, vr8, vr9, vr10, vr11, vr12, vr13, vr14, vr15, vr16, vr17, vr18, vr19, vr20, vr21, vr22, vr23, vr24, vr25, vr26, vr27, vr28, vr29, vr30, vr31, vr32, vr33, vr34, opS, fpS, okP, pack, nAl, allocA, shId, leaves, fillA, fillR, splice, Nat.reduceLT, Nat.reduceEqDiff, Nat.reduceLeDiff, Nat.reduceAdd, Nat.reduceSub, Nat.reduceMul, Int.reduceBEq, Int.reduceBNe, Int.reduceLT, Int.reduceLE, Int.reduceEq, reduceIte, reduceCtorEq, da, int, boolA, h3]
  | succ d ih =>
    intro i S K f hd hr h3 h9 h10 h11
    have g : ((i : Int) < n.kids.length) = True := by simp; omega
    have gi : i < n.kids.length := by omega
    have w1 := wrap_succ (show i < 9223372036854775807 by omega)
    rw [AW_loop]
    unfold c70L1
    by_cases h0 : i = 0
    · subst h0
      have g0 : ((0 : Int) < ((0 : Nat) : Int)) = False := by simp
      simp only [↓vp, vq0, vq1, vq2, vq3, vr0, vr1, vr2, vr3, vr4, vr5, vr6, vr7, vr8, vr9, vr10, vr11, vr12, vr13, vr14, vr15, vr16, vr17, vr18, vr19, vr20, vr21, vr22, vr23, vr24, vr25, vr26, vr27, vr28, vr29, vr30, vr31, vr32, vr33, vr34, opS, fpS, okP, pack, nAl, allocA, shId, leaves, fillA, fillR, splice, Nat.reduceLT, Nat.reduceEqDiff, Nat.reduceLeDiff, Nat.reduceAdd, Nat.reduceSub, Nat.reduceMul, Int.reduceBEq, Int.reduceBNe, Int.reduceLT, Int.reduceLE, Int.reduceEq, reduceIte, reduceCtorEq, da, int, boolA, h3, h9, h10, h11, g, g0, atK gi, cK gi, w1]
      rw [← hx_nil (hx _ _)]
      refine ih 1 S _ _ (by omega) ?_ ?_ ?_ ?_ ?_
      · have : (n.kids.take 1).drop 1 = [] := by simp
        rw [this]
        rw [List.take_zero, List.drop_nil] at hr
        exact hr.mono fun id h => get_old h _
      all_goals simp only [↓vp, vq0, vq1, vq2, vq3, vr0, vr1, vr2, vr3, vr4, vr5, vr6, vr7, vr8, vr9, vr10, vr11, vr12, vr13, vr14, vr15, vr16, vr17, vr18, vr19, vr20, vr21, vr22, vr23, vr24, vr25, vr26, vr27, vr28, vr29, vr30, vr31, vr32, vr33, vr34, opS, fpS, okP, pack, nAl, allocA, shId, leaves, fillA, fillR, splice, Nat.reduceLT, Nat.reduceEqDiff, Nat.reduceLeDiff, Nat.reduceAdd, Nat.reduceSub, Nat.reduceMul, Int.reduceBEq, Int.reduceBNe, Int.reduceLT, Int.reduceLE, Int.reduceEq, reduceIte, reduceCtorEq, da, int, boolA, h3, h9, h10]
    · have g0 : ((0 : Int) < (i : Int)) = True := eq_true (by omega)
      have ht : ((n.kids.take (i + 1)).drop 1) = ((n.kids.take i).drop 1) ++ [n.kids[i]] := by
        rw [List.take_succ_eq_append_getElem gi, List.drop_append_of_le_length (by simp; omega)]
      have hlen : (rows ++ (((n.kids.take i).drop 1).map fun x => keyC x.key)).length ≤ 2000 := by simp; omega
      have ap := fun nid L => appA_rep (nid := nid) (bytes := 24) hr (xs := [keyC n.kids[i].key]) (by simp) rfl (by simp only [List.length_singleton]; omega) L
      simp only [keyC] at ap
      simp only [↓vp, vq0, vq1, vq2, vq3, vr0, vr1, vr2, vr3, vr4, vr5, vr6, vr7, vr8, vr9, vr10, vr11, vr12, vr13, vr14, vr15, vr16, vr17, vr18, vr19, vr20, vr21, vr22, vr23, vr24, vr25, vr26, vr27, vr28, vr29, vr30, vr31, vr32, vr33, vr34, opS, fpS, okP, pack, nAl, allocA, shId, leaves, fillA, fillR, splice, Nat.reduceLT, Nat.reduceEqDiff, Nat.reduceLeDiff, Nat.reduceAdd, Nat.reduceSub, Nat.reduceMul, Int.reduceBEq, Int.reduceBNe, Int.reduceLT, Int.reduceLE, Int.reduceEq, reduceIte, reduceCtorEq, da, int, boolA, h3, h9, h10, h11, g, g0, atK gi, cK gi, ap, kill_next, w1]
      rw [← hx_nil (hx _ _)]
      refine ih (i + 1) (.sl (K.next + 2) 0 (rows ++ (((n.kids.take (i + 1)).drop 1).map fun x => keyC x.key)).length) _ _ (by omega) (.inr ⟨K.next + 2, ?_, ?_⟩) ?_ ?_ ?_ ?_
      · rfl
      · rw [ht]
        simp only [↓vp, vq0, vq1, vq2, vq3, vr0, vr1, vr2, vr3, vr4, vr5, vr6, vr7, vr8, vr9, vr10, vr11, vr12, vr13, vr14, vr15, vr16, vr17, vr18, vr19, vr20, vr21, vr22, vr23, vr24, vr25, vr26, vr27, vr28, vr29, vr30, vr31, vr32, vr33, vr34, opS, fpS, okP, pack, nAl, allocA, shId, leaves, fillA, fillR, splice, Nat.reduceLT, Nat.reduceEqDiff, Nat.reduceLeDiff, Nat.reduceAdd, Nat.reduceSub, Nat.reduceMul, Int.reduceBEq, Int.reduceBNe, Int.reduceLT, Int.reduceLE, Int.reduceEq, reduceIte, reduceCtorEq, kill_next, List.map_append, List.append_assoc]
        rfl
      · rw [ht]
        simp only [↓vp, vq0, vq1, vq2, vq3, vr0, vr1, vr2, vr3, vr4, vr5, vr6, vr7, vr8, vr9, vr10, vr11, vr12, vr13, vr14, vr15, vr16, vr17, vr18, vr19, vr20, vr21, vr22, vr23, vr24, vr25, vr26, vr27, vr28, vr29, vr30, vr31, vr32, vr33, vr34, opS, fpS, okP, pack, nAl, allocA, shId, leaves, fillA, fillR, splice, Nat.reduceLT, Nat.reduceEqDiff, Nat.reduceLeDiff, Nat.reduceAdd, Nat.reduceSub, Nat.reduceMul, Int.reduceBEq, Int.reduceBNe, Int.reduceLT, Int.reduceLE, Int.reduceEq, reduceIte, reduceCtorEq, da, int, boolA, List.map_append, List.length_append, Nat.add_assoc, keyC]
      all_goals simp only [↓vp, vq0, vq1, vq2, vq3, vr0, vr1, vr2, vr3, vr4, vr5, vr6, vr7, vr8, vr9, vr10, vr11, vr12, vr13, vr14, vr15, vr16, vr17, vr18, vr19, vr20, vr21, vr22, vr23, vr24, vr25, vr26, vr27, vr28, vr29, vr30, vr31, vr32, vr33, vr34, opS, fpS, okP, pack, nAl, allocA, shId, leaves, fillA, fillR, splice, Nat.reduceLT, Nat.reduceEqDiff, Nat.reduceLeDiff, Nat.reduceAdd, Nat.reduceSub, Nat.reduceMul, Int.reduceBEq, Int.reduceBNe, Int.reduceLT, Int.reduceLE, Int.reduceEq, reduceIte, reduceCtorEq, da, int, boolA, h9, h10]
theorem s70 (n : NodeM) (h1 : n.items.length ≤ 1000) (h2 : n.kids.length ≤ 1000) (H : Heap) : callL ft (.fn (.func 70) [] []) [.agg (nodeC n)] H = some (encKs (keysM n), H) := by
  refine call_p (as' := [.agg (nodeC n)]) rfl rfl (by simp) ?_
  unfold c70 r70
  simp only [↓vp, vq0, vq1, vq2, vq3, vr0, vr1, vr2, vr3, vr4, vr5, vr6, vr7, vr8, vr9, vr10, vr11, vr12, vr13, vr14, vr15, vr16, vr17, vr18, vr19, vr20, vr21, vr22, vr23, vr24, vr25, vr26, vr27, vr28, vr29, vr30, vr31, vr32, vr33, vr34, opS, fpS, okP, pack, nAl, allocA, shId, leaves, fillA, fillR, splice, Nat.reduceLT, Nat.reduceEqDiff, Nat.reduceLeDiff, Nat.reduceAdd, Nat.reduceSub, Nat.reduceMul, Int.reduceBEq, Int.reduceBNe, Int.reduceLT, Int.reduceLE, Int.reduceEq, reduceIte, reduceCtorEq, da, int, boolA]
  rw [← hx_nil (hx _ _)]
  refine l70a n h1 (fun f' K S hr k0 q1 q3 => ?_) n.items.length 0 (.sc (.slice none 0 0)) _ _ (by simp) (.inl ⟨rfl, by simp⟩) ?_ ?_ ?_ ?_ ?_ ?_
  · unfold c70R3
    have o0 := get_old k0
    simp only [↓vp, vq0, vq1, vq2, vq3, vr0, vr1, vr2, vr3, vr4, vr5, vr6, vr7, vr8, vr9, vr10, vr11, vr12, vr13, vr14, vr15, vr16, vr17, vr18, vr19, vr20, vr21, vr22, vr23, vr24, vr25, vr26, vr27, vr28, vr29, vr30, vr31, vr32, vr33, vr34, opS, fpS, okP, pack, nAl, allocA, shId, leaves, fillA, fillR, splice, Nat.reduceLT, Nat.reduceEqDiff, Nat.reduceLeDiff, Nat.reduceAdd, Nat.reduceSub, Nat.reduceMul, Int.reduceBEq, Int.reduceBNe, Int.reduceLT, Int.reduceLE, Int.reduceEq, reduceIte, reduceCtorEq, da, int, boolA, q1, q3, o0]
    refine l70b n h2 (n.items.map fun x => keyC x.key) (by simpa using h1) (fun f' K S hr q3 => ?_) n.kids.length 0 S _ _ (by simp) ?_ ?_ ?_ ?_ ?_
    · unfold c70R2
      obtain ⟨K', hK'⟩ := frz_rep (L := []) (by rw [hx_nil]; exact hr) 23
      simp only [↓vp, vq0, vq1, vq2, vq3, vr0, vr1, vr2, vr3, vr4, vr5, vr6, vr7, vr8, vr9, vr10, vr11, vr12, vr13, vr14, vr15, vr16, vr17, vr18, vr19, vr20, vr21, vr22, vr23, vr24, vr25, vr26, vr27, vr28, vr29, vr30, vr31, vr32, vr33, vr34, opS, fpS, okP, pack, nAl, allocA, shId, leaves, fillA, fillR, splice, Nat.reduceLT, Nat.reduceEqDiff, Nat.reduceLeDiff, Nat.reduceAdd, Nat.reduceSub, Nat.reduceMul, Int.reduceBEq, Int.reduceBNe, Int.reduceLT, Int.reduceLE, Int.reduceEq, reduceIte, reduceCtorEq, da, int, boolA, RetP_go, resT, resC, resN, retV1, retV2, retV3, retV0, frzFZ, takeM, Option.some.injEq, q3, hK']
      simp only [encKs, keysM, List.map_append, List.map_map]
      rfl
    · rw [List.take_zero, List.drop_nil, List.map_nil, List.append_nil]
      exact hr
    all_goals simp only [↓vp, vq0, vq1, vq2, vq3, vr0, vr1, vr2, vr3, vr4, vr5, vr6, vr7, vr8, vr9, vr10, vr11, vr12, vr13, vr14, vr15, vr16, vr17, vr18, vr19, vr20, vr21, vr22, vr23, vr24, vr25, vr26, vr27, vr28, vr29, vr30, vr31, vr32, vr33, vr34, opS, fpS, okP, pack, nAl, allocA, shId, leaves, fillA, fillR, splice, Nat.reduceLT, Nat.reduceEqDiff, Nat.reduceLeDiff, Nat.reduceAdd, Nat.reduceSub, Nat.reduceMul, Int.reduceBEq, Int.reduceBNe, Int.reduceLT, Int.reduceLE, Int.reduceEq, reduceIte, reduceCtorEq, da, int, boolA, q3]
    try rfl
  all_goals first | rfl | (simp only [↓vp, vq0, vq1, vq2, vq3, vr0, vr1, vr2, vr3, vr4, vr5, vr6, vr7, vr8, vr9, vr10, vr11, vr12, vr13, vr14, vr15, vr16, vr17, vr18, vr19, vr20, vr21, vr22, vr23, vr24, vr25, vr26, vr27, vr28, vr29, vr30, vr31, vr32, vr33, vr34, opS, fpS, okP, pack, nAl, allocA, shId, leaves, fillA, fillR, splice, Nat.reduceLT, Nat.reduceEqDiff, Nat.reduceLeDiff, Nat.reduceAdd, Nat.reduceSub, Nat.reduceMul, Int.reduceBEq, Int.reduceBNe, Int.reduceLT, Int.reduceLE, Int.reduceEq, reduceIte, reduceCtorEq, da, int, boolA]; done)
theorem k70 {n : NodeM} (h1 : n.items.length ≤ 1000) (h2 : n.kids.length ≤ 1000) {K : Heap} {L : List Blk} {Q : AV → Heap → Prop} :
    KW ft (.fn (.func 70) [] []) [.agg (nodeC n)] (hx K L) Q ↔ Q (encKs (keysM n)) (hx K L) := KW_of (s70 n h1 h2 _)
structure PlaceM where
  ref : Int
  deep : Int
  li : Bool
  lk : Bytes
  hi : Bool
  hk : Bytes
def placeC (p : PlaceM) (a b : AV) : List AV := [int p.ref, int p.deep, boolA p.li, a, boolA p.hi, b]
/-- Bytes, or a nil slice. -/
def NB (a : AV) (l : Bytes) : Prop := a = encB l ∨ (a = .sc (.slice none 0 0) ∧ l = [])
theorem NB.fz {a : AV} {l : Bytes} (h : NB a l) (n : Nat) (H : Heap) : frz (n + 1) H a = some (encB l, H) := by
  rcases h with rfl | ⟨rfl, rfl⟩ <;> rfl
theorem NB.one {a : AV} {l : Bytes} (h : NB a l) : a.one = true := by
  rcases h with rfl | ⟨rfl, rfl⟩ <;> rfl
theorem NB.cs {a : AV} {l : Bytes} (h : NB a l) : a.cells = [a] := by
  rcases h with rfl | ⟨rfl, rfl⟩ <;> rfl
theorem nb_B (l : Bytes) : NB (encB l) l := .inl rfl
structure okP_ (p : PlaceM) : Prop where
  l : okB p.lk
  h : okB p.hk
def bndM (p : PlaceM) (key : Bytes) : Bool := (!p.li || decide (0 ≤ cmpB key p.lk)) && (!p.hi || decide (cmpB key p.hk < 0))
theorem s71 {p : PlaceM} {a b : AV} (ha : NB a p.lk) (hb : NB b p.hk) (hp : okP_ p) {key : Bytes} (hk : okB key) (H : Heap) :
    callL ft (.fn (.func 71) [] []) [.agg (placeC p a b), encB key] H = some (boolA (bndM p key), H) := by
  refine call_p (as' := [.agg (placeC p (encB p.lk) (encB p.hk)), encB key]) rfl (by
    rcases ha with rfl | ⟨rfl, h⟩ <;> rcases hb with rfl | ⟨rfl, h'⟩ <;> first | rfl | (rw [h, h']; rfl) | (rw [h]; rfl) | (rw [h']; rfl)) (by simp) ?_
  have hl := hp.l
  have hh := hp.h
  unfold c71 r71 bndM placeC
  cases e1 : p.li with
  | false =>
    cases e2 : p.hi with
    | false => simp only [↓vp, vq0, vq1, vq2, vq3, vr0, vr1, vr2, vr3, vr4, vr5, vr6, vr7, vr8, vr9, vr10, vr11, vr12, vr13, vr14, vr15, vr16, vr17, vr18, vr19, vr20, vr21, vr22, vr23, vr24, vr25, vr26, vr27, vr28, vr29, vr30, vr31, vr32, vr33, vr34, opS, fpS, okP, pack, nAl, allocA, shId, leaves, fillA, fillR, splice, Nat.reduceLT, Nat.reduceEqDiff, Nat.reduceLeDiff, Nat.reduceAdd, Nat.reduceSub, Nat.reduceMul, Int.reduceBEq, Int.reduceBNe, Int.reduceLT, Int.reduceLE, Int.reduceEq, reduceIte, reduceCtorEq, da, int, boolA, RetP_go, resT, resC, resN, retV1, retV2, retV3, retV0, frzFZ, takeM, Option.some.injEq, e1, e2]; rfl
    | true => simp only [↓vp, vq0, vq1, vq2, vq3, vr0, vr1, vr2, vr3, vr4, vr5, vr6, vr7, vr8, vr9, vr10, vr11, vr12, vr13, vr14, vr15, vr16, vr17, vr18, vr19, vr20, vr21, vr22, vr23, vr24, vr25, vr26, vr27, vr28, vr29, vr30, vr31, vr32, vr33, vr34, opS, fpS, okP, pack, nAl, allocA, shId, leaves, fillA, fillR, splice, Nat.reduceLT, Nat.reduceEqDiff, Nat.reduceLeDiff, Nat.reduceAdd, Nat.reduceSub, Nat.reduceMul, Int.reduceBEq, Int.reduceBNe, Int.reduceLT, Int.reduceLE, Int.reduceEq, reduceIte, reduceCtorEq, da, int, boolA, RetP_go, resT, resC, resN, retV1, retV2, retV3, retV0, frzFZ, takeM, Option.some.injEq, e1, e2, k40, hh, hk]; rfl
  | true =>
    cases e3 : decide (0 ≤ cmpB key p.lk) with
    | false => simp only [↓vp, vq0, vq1, vq2, vq3, vr0, vr1, vr2, vr3, vr4, vr5, vr6, vr7, vr8, vr9, vr10, vr11, vr12, vr13, vr14, vr15, vr16, vr17, vr18, vr19, vr20, vr21, vr22, vr23, vr24, vr25, vr26, vr27, vr28, vr29, vr30, vr31, vr32, vr33, vr34, opS, fpS, okP, pack, nAl, allocA, shId, leaves, fillA, fillR, splice, Nat.reduceLT, Nat.reduceEqDiff, Nat.reduceLeDiff, Nat.reduceAdd, Nat.reduceSub, Nat.reduceMul, Int.reduceBEq, Int.reduceBNe, Int.reduceLT, Int.reduceLE, Int.reduceEq, reduceIte, reduceCtorEq, da, int, boolA, RetP_go, resT, resC, resN, retV1, retV2, retV3, retV0, frzFZ, takeM, Option.some.injEq, e1, e3, k40, hl, hh, hk]; rfl
    | true =>
      cases e2 : p.hi with
      | false => simp only [↓vp, vq0, vq1, vq2, vq3, vr0, vr1, vr2, vr3, vr4, vr5, vr6, vr7, vr8, vr9, vr10, vr11, vr12, vr13, vr14, vr15, vr16, vr17, vr18, vr19, vr20, vr21, vr22, vr23, vr24, vr25, vr26, vr27, vr28, vr29, vr30, vr31, vr32, vr33, vr34, opS, fpS, okP, pack, nAl, allocA, shId, leaves, fillA, fillR, splice, Nat.reduceLT, Nat.reduceEqDiff, Nat.reduceLeDiff, Nat.reduceAdd, Nat.reduceSub, Nat.reduceMul, Int.reduceBEq, Int.reduceBNe, Int.reduceLT, Int.reduceLE, Int.reduceEq, reduceIte, reduceCtorEq, da, int, boolA, RetP_go, resT, resC, resN, retV1, retV2, retV3, retV0, frzFZ, takeM, Option.some.injEq, e1, e2, e3, k40, hl, hh, hk]; rfl
      | true => simp only [↓vp, vq0, vq1, vq2, vq3, vr0, vr1, vr2, vr3, vr4, vr5, vr6, vr7, vr8, vr9, vr10, vr11, vr12, vr13, vr14, vr15, vr16, vr17, vr18, vr19, vr20, vr21, vr22, vr23, vr24, vr25, vr26, vr27, vr28, vr29, vr30, vr31, vr32, vr33, vr34, opS, fpS, okP, pack, nAl, allocA, shId, leaves, fillA, fillR, splice, Nat.reduceLT, Nat.reduceEqDiff, Nat.reduceLeDiff, Nat.reduceAdd, Nat.reduceSub, Nat.reduceMul, Int.reduceBEq, Int.reduceBNe, Int.reduceLT, Int.reduceLE, Int.reduceEq, reduceIte, reduceCtorEq, da, int, boolA, RetP_go, resT, resC, resN, retV1, retV2, retV3, retV0, frzFZ, takeM, Option.some.injEq, e1, e2, e3, k40, hl, hh, hk]; rfl
theorem k71 {p : PlaceM} {a b : AV} (ha : NB a p.lk) (hb : NB b p.hk) (hp : okP_ p) {key : Bytes} (hk : okB key) {K : Heap} {L : List Blk} {Q : AV → Heap → Prop} :
    KW ft (.fn (.func 71) [] []) [.agg (placeC p a b), encB key] (hx K L) Q ↔ Q (boolA (bndM p key)) (hx K L) := KW_of (s71 ha hb hp hk _)
end Go.VI

set_option linter.unusedVariables false
set_option linter.unusedSimpArgs false
set_option maxRecDepth 100000
namespace Go.VI
attribute [local congr] AW_congr OW_congr DW_congr NW_congr VW_congr GW_congr PW_congr KW_congr ite_congr' GV_congr CV_congr
def kidM (p : PlaceM) (n : NodeM) (k : Nat) : PlaceM :=
  ⟨((n.kids[k]?).map (·.ref)).getD 0, p.deep + 1, if 0 < k then true else p.li, if 0 < k then ((n.kids[k]?).map (·.key)).getD [] else p.lk,
    if k + 1 < n.kids.length then true else p.hi, if k + 1 < n.kids.length then ((n.kids[k + 1]?).map (·.key)).getD [] else p.hk⟩
def placeE (p : PlaceM) : List AV := placeC p (encB p.lk) (encB p.hk)
theorem s56 {p : PlaceM} {a b : AV} (ha : NB a p.lk) (hb : NB b p.hk) {n : NodeM} (hn : okN n) (hd : 0 ≤ p.deep ∧ p.deep ≤ 100) {k : Nat} (hk : k < n.kids.length) (H : Heap) :
    callL ft (.fn (.func 56) [] []) [.agg (placeC p a b), .agg (nodeC n), int k] H = some (.agg (placeE (kidM p n k)), H) := by
  refine call_p (as' := [.agg (placeE p), .agg (nodeC n), int k]) rfl (by
    unfold placeE
    rcases ha with rfl | ⟨rfl, h⟩ <;> rcases hb with rfl | ⟨rfl, h'⟩ <;> first | rfl | (rw [h, h']; rfl) | (rw [h]; rfl) | (rw [h']; rfl)) (by simp) ?_
  have hi := hn.k.n
  unfold MX at hi
  have w1 := wrap_succ (show k < 9223372036854775807 by omega)
  have w2 : IntKind.i64.wrap (p.deep + 1) = p.deep + 1 := wrap_i64 (by omega)
  have c1 : ((((k + 1 : Nat) : Int) < n.kids.length)) = (k + 1 < n.kids.length) := propext (by omega)
  unfold c56 r56 kidM placeE placeC
  simp only [List.getElem?_eq_getElem hk, Option.map_some, Option.getD_some]
  by_cases h0 : 0 < k
  · have g0 : ((0 : Int) < (k : Int)) = True := eq_true (by omega)
    by_cases h1 : k + 1 < n.kids.length
    · simp only [↓vp, vq0, vq1, vq2, vq3, vr0, vr1, vr2, vr3, vr4, vr5, vr6, vr7, vr8, vr9, vr10, vr11, vr12, vr13, vr14, vr15, vr16, vr17, vr18, vr19, vr20, vr21, vr22, vr23, vr24, vr25, vr26, vr27, vr28, vr29, vr30, vr31, vr32, vr33, vr34, opS, fpS, okP, pack, nAl, allocA, shId, leaves, fillA, fillR, splice, Nat.reduceLT, Nat.reduceEqDiff, Nat.reduceLeDiff, Nat.reduceAdd, Nat.reduceSub, Nat.reduceMul, Int.reduceBEq, Int.reduceBNe, Int.reduceLT, Int.reduceLE, Int.reduceEq, reduceIte, reduceCtorEq, da, int, boolA, RetP_go, resT, resC, resN, retV1, retV2, retV3, retV0, frzFZ, takeM, Option.some.injEq, g0, h0, h1, c1, w1, w2, atK hk, cK hk, atK h1, cK h1, List.getElem?_eq_getElem h1, Option.getD_some]
      rfl
    · simp only [↓vp, vq0, vq1, vq2, vq3, vr0, vr1, vr2, vr3, vr4, vr5, vr6, vr7, vr8, vr9, vr10, vr11, vr12, vr13, vr14, vr15, vr16, vr17, vr18, vr19, vr20, vr21, vr22, vr23, vr24, vr25, vr26, vr27, vr28, vr29, vr30, vr31, vr32, vr33, vr34, opS, fpS, okP, pack, nAl, allocA, shId, leaves, fillA, fillR, splice, Nat.reduceLT, Nat.reduceEqDiff, Nat.reduceLeDiff, Nat.reduceAdd, Nat.reduceSub, Nat.reduceMul, Int.reduceBEq, Int.reduceBNe, Int.reduceLT, Int.reduceLE, Int.reduceEq, reduceIte, reduceCtorEq, da, int, boolA, RetP_go, resT, resC, resN, retV1, retV2, retV3, retV0, frzFZ, takeM, Option.some.injEq, g0, h0, h1, c1, w1, w2, atK hk, cK hk]
      rfl
  · have g0 : ((0 : Int) < (k : Int)) = False := eq_false (by omega)
    by_cases h1 : k + 1 < n.kids.length
    · simp only [↓vp, vq0, vq1, vq2, vq3, vr0, vr1, vr2, vr3, vr4, vr5, vr6, vr7, vr8, vr9, vr10, vr11, vr12, vr13, vr14, vr15, vr16, vr17, vr18, vr19, vr20, vr21, vr22, vr23, vr24, vr25, vr26, vr27, vr28, vr29, vr30, vr31, vr32, vr33, vr34, opS, fpS, okP, pack, nAl, allocA, shId, leaves, fillA, fillR, splice, Nat.reduceLT, Nat.reduceEqDiff, Nat.reduceLeDiff, Nat.reduceAdd, Nat.reduceSub, Nat.reduceMul, Int.reduceBEq, Int.reduceBNe, Int.reduceLT, Int.reduceLE, Int.reduceEq, reduceIte, reduceCtorEq, da, int, boolA, RetP_go, resT, resC, resN, retV1, retV2, retV3, retV0, frzFZ, takeM, Option.some.injEq, g0, h0, h1, c1, w1, w2, atK hk, cK hk, atK h1, cK h1, List.getElem?_eq_getElem h1, Option.getD_some]
      rfl
    · simp only [↓vp, vq0, vq1, vq2, vq3, vr0, vr1, vr2, vr3, vr4, vr5, vr6, vr7, vr8, vr9, vr10, vr11, vr12, vr13, vr14, vr15, vr16, vr17, vr18, vr19, vr20, vr21, vr22, vr23, vr24, vr25, vr26, vr27, vr28, vr29, vr30, vr31, vr32, vr33, vr34, opS, fpS, okP, pack, nAl, allocA, shId, leaves, fillA, fillR, splice, Nat.reduceLT, Nat.reduceEqDiff, Nat.reduceLeDiff, Nat.reduceAdd, Nat.reduceSub, Nat.reduceMul, Int.reduceBEq, Int.reduceBNe, Int.reduceLT, Int.reduceLE, Int.reduceEq, reduceIte, reduceCtorEq, da, int, boolA, RetP_go, resT, resC, resN, retV1, retV2, retV3, retV0, frzFZ, takeM, Option.some.injEq, g0, h0, h1, c1, w1, w2, atK hk, cK hk]
      rfl
theorem k56 {p : PlaceM} {a b : AV} (ha : NB a p.lk) (hb : NB b p.hk) {n : NodeM} (hn : okN n) (hd : 0 ≤ p.deep ∧ p.deep ≤ 100) {k : Nat} (hk : k < n.kids.length) {K : Heap} {L : List Blk} {Q : AV → Heap → Prop} :
    KW ft (.fn (.func 56) [] []) [.agg (placeC p a b), .agg (nodeC n), int k] (hx K L) Q ↔ Q (.agg (placeE (kidM p n k))) (hx K L) := KW_of (s56 ha hb hn hd hk _)
theorem RetO_go {rs : List ARes} {R : AV} {H1 : Heap} {x : AExit} {n : Nat} {f : Nat → AV} {H : Heap} : RetO rs R H1 x (mkE n f) H ↔ leaves x = true ∧ (rs.mapM (resOf H (mkE n f))).map retV = some R ∧ H = H1 := Iff.rfl
theorem lenY (H : Heap) (l : List Bytes) : lenV H 0 (encKs l) = some (.sc (.int .i64 (l.length : Int)), H) := by simp [lenV, lenOfA, encKs]
theorem atY {H : Heap} {l : List Bytes} {i : Nat} (h : i < l.length) : iaddrA H none 1 (encKs l) (i : Int) = some (.pim (l.map keyC) i 0) := iaddr_map h len_keyC
theorem cY {H : Heap} {l : List Bytes} {i off n : Nat} (h : i < l.length) : cellsAt H (.pim (l.map keyC) i off) n = if off + n ≤ 1 then some (((keyC l[i]).drop off).take n) else none := cells_map h
theorem y_0 (b : Bytes) : (keyC b).take 1 = [encB b] := rfl
/-- Are keys between a place's, and do they rise? -/
def ksM (p : PlaceM) : Option Bytes → List Bytes → Bool
  | _, [] => true
  | prev, x :: l => bndM p x && (prev.elim true fun y => decide (cmpB y x < 0)) && ksM p (some x) l
theorem l68 {p : PlaceM} {a b : AV} (ha : NB a p.lk) (hb : NB b p.hk) (hp : okP_ p) (l : List Bytes) (hl : ∀ x ∈ l, okB x) (hi : l.length < MX) (R : Bool) {L : List Blk} {H : Heap} (hL : L[0]? = some (.box false (placeC p a b)))
   {Q : AExit → Env → Heap → Prop}
   (hex : ∀ f', R = true → Q (.exit 0) (mkE 106 f') (hx H L)) (hret : ∀ f', R = false → f' 6 = boolA false → Q .ret (mkE 106 f') (hx H L)) :
   ∀ (d i : Nat) (f : Nat → AV), i + d = l.length → R = ksM p (if i = 0 then none else l[i - 1]?) (l.drop i) → f 4 = .ptr H.next 0 0 → f 8 = encKs l → f 80 = encKs l → f 81 = int l.length → f 82 = int i →
    AW ft (.loop c68L0) (mkE 106 f) (hx H L) Q := by
  intro d
  unfold MX at hi
  induction d with
  | zero =>
    intro i f hd hR h4 h8 h80 h81 h82
    have g : ((i : Int) < l.length) = False := eq_false (by omega)
    rw [AW_loop]
    unfold c68L0
    simp only [↓vp, vq0, vq1, vq2, vq3, vr0, vr1, vr2, vr3, vr4, vr5, vr6, vr7, vr8, vr9, vr10, vr11, vr12, vr13, vr14, vr15, vr16, vr17, vr18, vr19, vr20, vr21, vr22, vr23, vr24, vr25, vr26, vr27, vr28, vr29, vr30, vr31, vr32, vr33, vr34, opS, fpS, okP, pack, nAl, allocA, shId, leaves, fillA, fillR, splice, Nat.reduceLT, Nat.reduceEqDiff, Nat.reduceLeDiff, Nat.reduceAdd, Nat.reduceSub, Nat.reduceMul, Int.reduceBEq, Int.reduceBNe, Int.reduceLT, Int.reduceLE, Int.reduceEq, reduceIte, reduceCtorEq, da, int, boolA, h81, h82, g]
    refine hex _ ?_
    rw [hR, List.drop_eq_nil_of_le (by omega)]
    cases (if i = 0 then none else l[i - 1]?) <;> rfl
  | succ d ih =>
    intro i f hd hR h4 h8 h80 h81 h82
    have g : ((i : Int) < l.length) = True := eq_true (by omega)
    have gi : i < l.length := by omega
    have w1 := wrap_succ (show i < 9223372036854775807 by omega)
    have hx_ := hl _ (List.getElem_mem gi)
    have x71 := fun K L Q => k71 ha hb hp hx_ (K := K) (L := L) (Q := Q)
    have c6 : (placeC p a b).take 6 = placeC p a b := rfl
    have cl : (placeC p a b).length = 6 := rfl
    rw [List.drop_eq_getElem_cons gi, ksM] at hR
    rw [AW_loop]
    unfold c68L0
    cases e1 : bndM p l[i] with
    | false =>
      rw [e1] at hR
      simp only [↓vp, vq0, vq1, vq2, vq3, vr0, vr1, vr2, vr3, vr4, vr5, vr6, vr7, vr8, vr9, vr10, vr11, vr12, vr13, vr14, vr15, vr16, vr17, vr18, vr19, vr20, vr21, vr22, vr23, vr24, vr25, vr26, vr27, vr28, vr29, vr30, vr31, vr32, vr33, vr34, opS, fpS, okP, pack, nAl, allocA, shId, leaves, fillA, fillR, splice, Nat.reduceLT, Nat.reduceEqDiff, Nat.reduceLeDiff, Nat.reduceAdd, Nat.reduceSub, Nat.reduceMul, Int.reduceBEq, Int.reduceBNe, Int.reduceLT, Int.reduceLE, Int.reduceEq, reduceIte, reduceCtorEq, da, int, boolA, h4, h8, h80, h81, h82, g, atY gi, cY gi, y_0, hL, c6, cl, x71, e1]
      refine hret _ (by simpa using hR) ?_
      simp only [↓vp, vq0, vq1, vq2, vq3, vr0, vr1, vr2, vr3, vr4, vr5, vr6, vr7, vr8, vr9, vr10, vr11, vr12, vr13, vr14, vr15, vr16, vr17, vr18, vr19, vr20, vr21, vr22, vr23, vr24, vr25, vr26, vr27, vr28, vr29, vr30, vr31, vr32, vr33, vr34, opS, fpS, okP, pack, nAl, allocA, shId, leaves, fillA, fillR, splice, Nat.reduceLT, Nat.reduceEqDiff, Nat.reduceLeDiff, Nat.reduceAdd, Nat.reduceSub, Nat.reduceMul, Int.reduceBEq, Int.reduceBNe, Int.reduceLT, Int.reduceLE, Int.reduceEq, reduceIte, reduceCtorEq, da, int, boolA]
    | true =>
      rw [e1] at hR
      cases i with
      | zero =>
        have g0 : ((0 : Int) < ((0 : Nat) : Int)) = False := by simp
        simp only [↓vp, vq0, vq1, vq2, vq3, vr0, vr1, vr2, vr3, vr4, vr5, vr6, vr7, vr8, vr9, vr10, vr11, vr12, vr13, vr14, vr15, vr16, vr17, vr18, vr19, vr20, vr21, vr22, vr23, vr24, vr25, vr26, vr27, vr28, vr29, vr30, vr31, vr32, vr33, vr34, opS, fpS, okP, pack, nAl, allocA, shId, leaves, fillA, fillR, splice, Nat.reduceLT, Nat.reduceEqDiff, Nat.reduceLeDiff, Nat.reduceAdd, Nat.reduceSub, Nat.reduceMul, Int.reduceBEq, Int.reduceBNe, Int.reduceLT, Int.reduceLE, Int.reduceEq, reduceIte, reduceCtorEq, da, int, boolA, h4, h8, h80, h81, h82, g, g0, atY gi, cY gi, y_0, hL, c6, cl, x71, e1, w1]
        refine ih 1 _ (by omega) ?_ ?_ ?_ ?_ ?_ ?_
        · rw [hR]
          simp [List.getElem?_eq_getElem gi]
        all_goals simp only [↓vp, vq0, vq1, vq2, vq3, vr0, vr1, vr2, vr3, vr4, vr5, vr6, vr7, vr8, vr9, vr10, vr11, vr12, vr13, vr14, vr15, vr16, vr17, vr18, vr19, vr20, vr21, vr22, vr23, vr24, vr25, vr26, vr27, vr28, vr29, vr30, vr31, vr32, vr33, vr34, opS, fpS, okP, pack, nAl, allocA, shId, leaves, fillA, fillR, splice, Nat.reduceLT, Nat.reduceEqDiff, Nat.reduceLeDiff, Nat.reduceAdd, Nat.reduceSub, Nat.reduceMul, Int.reduceBEq, Int.reduceBNe, Int.reduceLT, Int.reduceLE, Int.reduceEq, reduceIte, reduceCtorEq, da, int, boolA, h4, h8, h80, h81]
      | succ j =>
        have g0 : ((0 : Int) < ((j + 1 : Nat) : Int)) = True := eq_true (by omega)
        have gj : j < l.length := by omega
        have w0 := wrap_pred (show j < 9223372036854775807 by omega)
        have hy_ := hl _ (List.getElem_mem gj)
        simp only [Nat.add_sub_cancel, Nat.add_one_ne_zero, if_false, List.getElem?_eq_getElem gj, Option.elim_some, Bool.true_and] at hR
        cases e2 : decide (cmpB l[j] l[j + 1] < 0) with
        | false =>
          have e2' : ¬ cmpB l[j] l[j + 1] < 0 := by simpa using e2
          have e3 : (0 ≤ cmpB l[j] l[j + 1]) = True := eq_true (by omega)
          rw [e2] at hR
          simp only [↓vp, vq0, vq1, vq2, vq3, vr0, vr1, vr2, vr3, vr4, vr5, vr6, vr7, vr8, vr9, vr10, vr11, vr12, vr13, vr14, vr15, vr16, vr17, vr18, vr19, vr20, vr21, vr22, vr23, vr24, vr25, vr26, vr27, vr28, vr29, vr30, vr31, vr32, vr33, vr34, opS, fpS, okP, pack, nAl, allocA, shId, leaves, fillA, fillR, splice, Nat.reduceLT, Nat.reduceEqDiff, Nat.reduceLeDiff, Nat.reduceAdd, Nat.reduceSub, Nat.reduceMul, Int.reduceBEq, Int.reduceBNe, Int.reduceLT, Int.reduceLE, Int.reduceEq, reduceIte, reduceCtorEq, da, int, boolA, h4, h8, h80, h81, h82, g, g0, atY gi, cY gi, atY gj, cY gj, y_0, hL, c6, cl, x71, e1, w0, k40, hx_, hy_, e3]
          refine hret _ (by simpa using hR) ?_
          simp only [↓vp, vq0, vq1, vq2, vq3, vr0, vr1, vr2, vr3, vr4, vr5, vr6, vr7, vr8, vr9, vr10, vr11, vr12, vr13, vr14, vr15, vr16, vr17, vr18, vr19, vr20, vr21, vr22, vr23, vr24, vr25, vr26, vr27, vr28, vr29, vr30, vr31, vr32, vr33, vr34, opS, fpS, okP, pack, nAl, allocA, shId, leaves, fillA, fillR, splice, Nat.reduceLT, Nat.reduceEqDiff, Nat.reduceLeDiff, Nat.reduceAdd, Nat.reduceSub, Nat.reduceMul, Int.reduceBEq, Int.reduceBNe, Int.reduceLT, Int.reduceLE, Int.reduceEq, reduceIte, reduceCtorEq, da, int, boolA]
        | true =>
          have e2' : cmpB l[j] l[j + 1] < 0 := by simpa using e2
          have e3 : (0 ≤ cmpB l[j] l[j + 1]) = False := eq_false (by omega)
          rw [e2] at hR
          simp only [↓vp, vq0, vq1, vq2, vq3, vr0, vr1, vr2, vr3, vr4, vr5, vr6, vr7, vr8, vr9, vr10, vr11, vr12, vr13, vr14, vr15, vr16, vr17, vr18, vr19, vr20, vr21, vr22, vr23, vr24, vr25, vr26, vr27, vr28, vr29, vr30, vr31, vr32, vr33, vr34, opS, fpS, okP, pack, nAl, allocA, shId, leaves, fillA, fillR, splice, Nat.reduceLT, Nat.reduceEqDiff, Nat.reduceLeDiff, Nat.reduceAdd, Nat.reduceSub, Nat.reduceMul, Int.reduceBEq, Int.reduceBNe, Int.reduceLT, Int.reduceLE, Int.reduceEq, reduceIte, reduceCtorEq, da, int, boolA, h4, h8, h80, h81, h82, g, g0, atY gi, cY gi, atY gj, cY gj, y_0, hL, c6, cl, x71, e1, w0, w1, k40, hx_, hy_, e3]
          refine ih (j + 1 + 1) _ (by omega) ?_ ?_ ?_ ?_ ?_ ?_
          · rw [hR]
            simp [List.getElem?_eq_getElem gi]
          all_goals simp only [↓vp, vq0, vq1, vq2, vq3, vr0, vr1, vr2, vr3, vr4, vr5, vr6, vr7, vr8, vr9, vr10, vr11, vr12, vr13, vr14, vr15, vr16, vr17, vr18, vr19, vr20, vr21, vr22, vr23, vr24, vr25, vr26, vr27, vr28, vr29, vr30, vr31, vr32, vr33, vr34, opS, fpS, okP, pack, nAl, allocA, shId, leaves, fillA, fillR, splice, Nat.reduceLT, Nat.reduceEqDiff, Nat.reduceLeDiff, Nat.reduceAdd, Nat.reduceSub, Nat.reduceMul, Int.reduceBEq, Int.reduceBNe, Int.reduceLT, Int.reduceLE, Int.reduceEq, reduceIte, reduceCtorEq, da, int, boolA, h4, h8, h80, h81]
/-- May a node stand at its place? -/
def formM (depth : Int) (p : PlaceM) (n : NodeM) : Bool :=
  if n.leaf then
    !(decide (0 < (n.kids.length : Int))) && (!((n.items.length : Int) == 0) || p.deep == 1) && !(decide (0 < depth) && depth != p.deep) && ksM p none (keysM n)
  else !(decide (0 < (n.items.length : Int))) && !(decide ((n.kids.length : Int) < 2)) && ksM p none (keysM n)
theorem ok_keys {n : NodeM} (hn : okN n) : ∀ x ∈ keysM n, okB x := fun x hx => by
  rcases List.mem_append.1 hx with hx | hx
  · obtain ⟨y, hy, rfl⟩ := List.mem_map.1 hx
    exact (hn.i.h y hy).k
  · obtain ⟨y, hy, rfl⟩ := List.mem_map.1 hx
    exact hn.k.h y (List.mem_of_mem_drop hy)
theorem s68 {p : PlaceM} {a b : AV} (ha : NB a p.lk) (hb : NB b p.hk) (hp : okP_ p) {n : NodeM} (hn : okN n) (h1 : n.items.length ≤ 1000) (h2 : n.kids.length ≤ 1000) {H : Heap} {wid : Nat} {w0 w1 w2 w4 : AV} {depth : Int}
   (hw : H.get wid = some (.box false [w0, w1, w2, int depth, w4])) :
    callL ft (.fn (.func 68) [] []) [.ptr wid 0 0, .agg (placeC p a b), .agg (nodeC n)] H = some (boolA (formM depth p n), hx H [.box false (placeC p a b), .box false (nodeC n)]) := by
  refine call_o rfl (by simp) ?_
  have cl : (placeC p a b).length = 6 := rfl
  have ca : oneAll (placeC p a b) = true := by
    show (true && (true && (true && (a.one && (true && (b.one && true)))))) = true
    rw [ha.one, hb.one]; rfl
  have c1 : ((placeC p a b).drop 1).take 1 = [int p.deep] := rfl
  have ow := get_old hw
  have key : formM depth p n = ksM p none (keysM n) → ∀ (f : Nat → AV), f 4 = .ptr H.next 0 0 → f 8 = encKs (keysM n) → f 80 = encKs (keysM n) → f 81 = int (keysM n).length → f 82 = int 0 →
     AW ft (.loop c68L0) (mkE 106 f) (hx H [.box false (placeC p a b), .box false (nodeC n)]) (blockA 0 (thenA (fun e H' => AW ft c68R1 e H' (RetO r68 (boolA (formM depth p n)) (hx H [.box false (placeC p a b), .box false (nodeC n)]))) (RetO r68 (boolA (formM depth p n)) (hx H [.box false (placeC p a b), .box false (nodeC n)])))) := by
    intro hf f h4 h8 h80 h81 h82
    refine l68 ha hb hp (keysM n) (ok_keys hn) (by simp [keysM, MX]; omega) (formM depth p n) rfl (fun f' hR => ?_) (fun f' hR h6 => ?_) (keysM n).length 0 f (by simp) (by simpa using hf) h4 h8 h80 h81 h82
    · unfold c68R1 r68
      simp only [↓vp, vq0, vq1, vq2, vq3, vr0, vr1, vr2, vr3, vr4, vr5, vr6, vr7, vr8, vr9, vr10, vr11, vr12, vr13, vr14, vr15, vr16, vr17, vr18, vr19, vr20, vr21, vr22, vr23, vr24, vr25, vr26, vr27, vr28, vr29, vr30, vr31, vr32, vr33, vr34, opS, fpS, okP, pack, nAl, allocA, shId, leaves, fillA, fillR, splice, Nat.reduceLT, Nat.reduceEqDiff, Nat.reduceLeDiff, Nat.reduceAdd, Nat.reduceSub, Nat.reduceMul, Int.reduceBEq, Int.reduceBNe, Int.reduceLT, Int.reduceLE, Int.reduceEq, reduceIte, reduceCtorEq, da, int, boolA, hR]
      exact ⟨rfl, rfl, rfl⟩
    · unfold r68
      simp only [↓vp, vq0, vq1, vq2, vq3, vr0, vr1, vr2, vr3, vr4, vr5, vr6, vr7, vr8, vr9, vr10, vr11, vr12, vr13, vr14, vr15, vr16, vr17, vr18, vr19, vr20, vr21, vr22, vr23, vr24, vr25, vr26, vr27, vr28, vr29, vr30, vr31, vr32, vr33, vr34, opS, fpS, okP, pack, nAl, allocA, shId, leaves, fillA, fillR, splice, Nat.reduceLT, Nat.reduceEqDiff, Nat.reduceLeDiff, Nat.reduceAdd, Nat.reduceSub, Nat.reduceMul, Int.reduceBEq, Int.reduceBNe, Int.reduceLT, Int.reduceLE, Int.reduceEq, reduceIte, reduceCtorEq, da, int, boolA, hR]
      refine ⟨rfl, ?_, rfl⟩
      unfold resultsA
      rw [resT, resN, if_pos (by decide), h6]
      rfl
  have n_take3' : (nodeC n).take 3 = nodeC n := rfl
  unfold c68 r68
  have fin : formM depth p n = ksM p none (keysM n) → True := fun _ => trivial
  cases e1 : n.leaf with
  | true =>
    cases e2 : decide ((0 : Int) < n.kids.length) with
    | true =>
      have hf : formM depth p n = false := by unfold formM; simp only [e1, e2]; simp
      simp only [↓vp, vq0, vq1, vq2, vq3, vr0, vr1, vr2, vr3, vr4, vr5, vr6, vr7, vr8, vr9, vr10, vr11, vr12, vr13, vr14, vr15, vr16, vr17, vr18, vr19, vr20, vr21, vr22, vr23, vr24, vr25, vr26, vr27, vr28, vr29, vr30, vr31, vr32, vr33, vr34, opS, fpS, okP, pack, nAl, allocA, shId, leaves, fillA, fillR, splice, Nat.reduceLT, Nat.reduceEqDiff, Nat.reduceLeDiff, Nat.reduceAdd, Nat.reduceSub, Nat.reduceMul, Int.reduceBEq, Int.reduceBNe, Int.reduceLT, Int.reduceLE, Int.reduceEq, reduceIte, reduceCtorEq, da, int, boolA, RetO_go, resT, resC, resN, retV1, retV2, retV3, retV0, Option.some.injEq, cl, ca, c1, ow, hf, e1, e2]
    | false =>
      cases e3 : ((n.items.length : Int) == 0) with
      | true =>
        cases e4 : (p.deep == 1) with
        | true =>
          cases e5 : decide ((0 : Int) < depth) with
          | true =>
            cases e6 : (depth != p.deep) with
            | true =>
              have hf : formM depth p n = false := by unfold formM; simp only [e1, e2, e3, e4, e5, e6]; simp
              simp only [↓vp, vq0, vq1, vq2, vq3, vr0, vr1, vr2, vr3, vr4, vr5, vr6, vr7, vr8, vr9, vr10, vr11, vr12, vr13, vr14, vr15, vr16, vr17, vr18, vr19, vr20, vr21, vr22, vr23, vr24, vr25, vr26, vr27, vr28, vr29, vr30, vr31, vr32, vr33, vr34, opS, fpS, okP, pack, nAl, allocA, shId, leaves, fillA, fillR, splice, Nat.reduceLT, Nat.reduceEqDiff, Nat.reduceLeDiff, Nat.reduceAdd, Nat.reduceSub, Nat.reduceMul, Int.reduceBEq, Int.reduceBNe, Int.reduceLT, Int.reduceLE, Int.reduceEq, reduceIte, reduceCtorEq, da, int, boolA, RetO_go, resT, resC, resN, retV1, retV2, retV3, retV0, Option.some.injEq, cl, ca, c1, ow, hf, e1, e2, e3, e4, e5, e6]
            | false =>
              have hf : formM depth p n = ksM p none (keysM n) := by unfold formM; simp only [e1, e2, e3, e4, e5, e6]; simp
              simp only [↓vp, vq0, vq1, vq2, vq3, vr0, vr1, vr2, vr3, vr4, vr5, vr6, vr7, vr8, vr9, vr10, vr11, vr12, vr13, vr14, vr15, vr16, vr17, vr18, vr19, vr20, vr21, vr22, vr23, vr24, vr25, vr26, vr27, vr28, vr29, vr30, vr31, vr32, vr33, vr34, opS, fpS, okP, pack, nAl, allocA, shId, leaves, fillA, fillR, splice, Nat.reduceLT, Nat.reduceEqDiff, Nat.reduceLeDiff, Nat.reduceAdd, Nat.reduceSub, Nat.reduceMul, Int.reduceBEq, Int.reduceBNe, Int.reduceLT, Int.reduceLE, Int.reduceEq, reduceIte, reduceCtorEq, da, int, boolA, cl, ca, c1, ow, n_take3', k70, h1, h2, lenY, e1, e2, e3, e4, e5, e6]
              refine key hf _ ?_ ?_ ?_ ?_ ?_ <;> (try simp only [↓vp, vq0, vq1, vq2, vq3, vr0, vr1, vr2, vr3, vr4, vr5, vr6, vr7, vr8, vr9, vr10, vr11, vr12, vr13, vr14, vr15, vr16, vr17, vr18, vr19, vr20, vr21, vr22, vr23, vr24, vr25, vr26, vr27, vr28, vr29, vr30, vr31, vr32, vr33, vr34, opS, fpS, okP, pack, nAl, allocA, shId, leaves, fillA, fillR, splice, Nat.reduceLT, Nat.reduceEqDiff, Nat.reduceLeDiff, Nat.reduceAdd, Nat.reduceSub, Nat.reduceMul, Int.reduceBEq, Int.reduceBNe, Int.reduceLT, Int.reduceLE, Int.reduceEq, reduceIte, reduceCtorEq, da, int, boolA]) <;> rfl
          | false =>
            have hf : formM depth p n = ksM p none (keysM n) := by unfold formM; simp only [e1, e2, e3, e4, e5]; simp
            simp only [↓vp, vq0, vq1, vq2, vq3, vr0, vr1, vr2, vr3, vr4, vr5, vr6, vr7, vr8, vr9, vr10, vr11, vr12, vr13, vr14, vr15, vr16, vr17, vr18, vr19, vr20, vr21, vr22, vr23, vr24, vr25, vr26, vr27, vr28, vr29, vr30, vr31, vr32, vr33, vr34, opS, fpS, okP, pack, nAl, allocA, shId, leaves, fillA, fillR, splice, Nat.reduceLT, Nat.reduceEqDiff, Nat.reduceLeDiff, Nat.reduceAdd, Nat.reduceSub, Nat.reduceMul, Int.reduceBEq, Int.reduceBNe, Int.reduceLT, Int.reduceLE, Int.reduceEq, reduceIte, reduceCtorEq, da, int, boolA, cl, ca, c1, ow, n_take3', k70, h1, h2, lenY, e1, e2, e3, e4, e5]
            refine key hf _ ?_ ?_ ?_ ?_ ?_ <;> (try simp only [↓vp, vq0, vq1, vq2, vq3, vr0, vr1, vr2, vr3, vr4, vr5, vr6, vr7, vr8, vr9, vr10, vr11, vr12, vr13, vr14, vr15, vr16, vr17, vr18, vr19, vr20, vr21, vr22, vr23, vr24, vr25, vr26, vr27, vr28, vr29, vr30, vr31, vr32, vr33, vr34, opS, fpS, okP, pack, nAl, allocA, shId, leaves, fillA, fillR, splice, Nat.reduceLT, Nat.reduceEqDiff, Nat.reduceLeDiff, Nat.reduceAdd, Nat.reduceSub, Nat.reduceMul, Int.reduceBEq, Int.reduceBNe, Int.reduceLT, Int.reduceLE, Int.reduceEq, reduceIte, reduceCtorEq, da, int, boolA]) <;> rfl
        | false =>
          have hf : formM depth p n = false := by unfold formM; simp only [e1, e2, e3, e4]; simp
          simp only [↓vp, vq0, vq1, vq2, vq3, vr0, vr1, vr2, vr3, vr4, vr5, vr6, vr7, vr8, vr9, vr10, vr11, vr12, vr13, vr14, vr15, vr16, vr17, vr18, vr19, vr20, vr21, vr22, vr23, vr24, vr25, vr26, vr27, vr28, vr29, vr30, vr31, vr32, vr33, vr34, opS, fpS, okP, pack, nAl, allocA, shId, leaves, fillA, fillR, splice, Nat.reduceLT, Nat.reduceEqDiff, Nat.reduceLeDiff, Nat.reduceAdd, Nat.reduceSub, Nat.reduceMul, Int.reduceBEq, Int.reduceBNe, Int.reduceLT, Int.reduceLE, Int.reduceEq, reduceIte, reduceCtorEq, da, int, boolA, RetO_go, resT, resC, resN, retV1, retV2, retV3, retV0, Option.some.injEq, cl, ca, c1, ow, hf, e1, e2, e3, e4]
      | false =>
        cases e5 : decide ((0 : Int) < depth) with
        | true =>
          cases e6 : (depth != p.deep) with
          | true =>
            have hf : formM depth p n = false := by unfold formM; simp only [e1, e2, e3, e5, e6]; simp
            simp only [↓vp, vq0, vq1, vq2, vq3, vr0, vr1, vr2, vr3, vr4, vr5, vr6, vr7, vr8, vr9, vr10, vr11, vr12, vr13, vr14, vr15, vr16, vr17, vr18, vr19, vr20, vr21, vr22, vr23, vr24, vr25, vr26, vr27, vr28, vr29, vr30, vr31, vr32, vr33, vr34, opS, fpS, okP, pack, nAl, allocA, shId, leaves, fillA, fillR, splice, Nat.reduceLT, Nat.reduceEqDiff, Nat.reduceLeDiff, Nat.reduceAdd, Nat.reduceSub, Nat.reduceMul, Int.reduceBEq, Int.reduceBNe, Int.reduceLT, Int.reduceLE, Int.reduceEq, reduceIte, reduceCtorEq, da, int, boolA, RetO_go, resT, resC, resN, retV1, retV2, retV3, retV0, Option.some.injEq, cl, ca, c1, ow, hf, e1, e2, e3, e5, e6]
          | false =>
            have hf : formM depth p n = ksM p none (keysM n) := by unfold formM; simp only [e1, e2, e3, e5, e6]; simp
            simp only [↓vp, vq0, vq1, vq2, vq3, vr0, vr1, vr2, vr3, vr4, vr5, vr6, vr7, vr8, vr9, vr10, vr11, vr12, vr13, vr14, vr15, vr16, vr17, vr18, vr19, vr20, vr21, vr22, vr23, vr24, vr25, vr26, vr27, vr28, vr29, vr30, vr31, vr32, vr33, vr34, opS, fpS, okP, pack, nAl, allocA, shId, leaves, fillA, fillR, splice, Nat.reduceLT, Nat.reduceEqDiff, Nat.reduceLeDiff, Nat.reduceAdd, Nat.reduceSub, Nat.reduceMul, Int.reduceBEq, Int.reduceBNe, Int.reduceLT, Int.reduceLE, Int.reduceEq, reduceIte, reduceCtorEq, da, int, boolA, cl, ca, c1, ow, n_take3', k70, h1, h2, lenY, e1, e2, e3, e5, e6]
            refine key hf _ ?_ ?_ ?_ ?_ ?_ <;> (try simp only [↓vp, vq0, vq1, vq2, vq3, vr0, vr1, vr2, vr3, vr4, vr5, vr6, vr7, vr8, vr9, vr10, vr11, vr12, vr13, vr14, vr15, vr16, vr17, vr18, vr19, vr20, vr21, vr22, vr23, vr24, vr25, vr26, vr27, vr28, vr29, vr30, vr31, vr32, vr33, vr34, opS, fpS, okP, pack, nAl, allocA, shId, leaves, fillA, fillR, splice, Nat.reduceLT, Nat.reduceEqDiff, Nat.reduceLeDiff, Nat.reduceAdd, Nat.reduceSub, Nat.reduceMul, Int.reduceBEq, Int.reduceBNe, Int.reduceLT, Int.reduceLE, Int.reduceEq, reduceIte, reduceCtorEq, da, int, boolA]) <;> rfl
        | false =>
          have hf : formM depth p n = ksM p none (keysM n) := by unfold formM; simp only [e1, e2, e3, e5]; simp
          simp only [↓vp, vq0, vq1, vq2, vq3, vr0, vr1, vr2, vr3, vr4, vr5, vr6, vr7, vr8, vr9, vr10, vr11, vr12, vr13, vr14, vr15, vr16, vr17, vr18, vr19, vr20, vr21, vr22, vr23, vr24, vr25, vr26, vr27, vr28, vr29, vr30, vr31, vr32, vr33, vr34, opS, fpS, okP, pack, nAl, allocA, shId, leaves, fillA, fillR, splice, Nat.reduceLT, Nat.reduceEqDiff, Nat.reduceLeDiff, Nat.reduceAdd, Nat.reduceSub, Nat.reduceMul, Int.reduceBEq, Int.reduceBNe, Int.reduceLT, Int.reduceLE, Int.reduceEq, reduceIte, reduceCtorEq, da, int, boolA, cl, ca, c1, ow, n_take3', k70, h1, h2, lenY, e1, e2, e3, e5]
          refine key hf _ ?_ ?_ ?_ ?_ ?_ <;> (try simp only [↓vp, vq0, vq1, vq2, vq3, vr0, vr1, vr2, vr3, vr4, vr5, vr6, vr7, vr8, vr9, vr10, vr11, vr12, vr13, vr14, vr15, vr16, vr17, vr18, vr19, vr20, vr21, vr22, vr23, vr24, vr25, vr26, vr27, vr28, vr29, vr30, vr31, vr32, vr33, vr34, opS, fpS, okP, pack, nAl, allocA, shId, leaves, fillA, fillR, splice, Nat.reduceLT, Nat.reduceEqDiff, Nat.reduceLeDiff, Nat.reduceAdd, Nat.reduceSub, Nat.reduceMul, Int.reduceBEq, Int.reduceBNe, Int.reduceLT, Int.reduceLE, Int.reduceEq, reduceIte, reduceCtorEq, da, int, boolA]) <;> rfl
  | false =>
    cases e2 : decide ((0 : Int) < n.items.length) with
    | true =>
      have hf : formM depth p n = false := by unfold formM; simp only [e1, e2]; simp
      simp only [↓vp, vq0, vq1, vq2, vq3, vr0, vr1, vr2, vr3, vr4, vr5, vr6, vr7, vr8, vr9, vr10, vr11, vr12, vr13, vr14, vr15, vr16, vr17, vr18, vr19, vr20, vr21, vr22, vr23, vr24, vr25, vr26, vr27, vr28, vr29, vr30, vr31, vr32, vr33, vr34, opS, fpS, okP, pack, nAl, allocA, shId, leaves, fillA, fillR, splice, Nat.reduceLT, Nat.reduceEqDiff, Nat.reduceLeDiff, Nat.reduceAdd, Nat.reduceSub, Nat.reduceMul, Int.reduceBEq, Int.reduceBNe, Int.reduceLT, Int.reduceLE, Int.reduceEq, reduceIte, reduceCtorEq, da, int, boolA, RetO_go, resT, resC, resN, retV1, retV2, retV3, retV0, Option.some.injEq, cl, ca, c1, ow, hf, e1, e2]
    | false =>
      cases e3 : decide ((n.kids.length : Int) < 2) with
      | true =>
        have hf : formM depth p n = false := by unfold formM; simp only [e1, e2, e3]; simp
        simp only [↓vp, vq0, vq1, vq2, vq3, vr0, vr1, vr2, vr3, vr4, vr5, vr6, vr7, vr8, vr9, vr10, vr11, vr12, vr13, vr14, vr15, vr16, vr17, vr18, vr19, vr20, vr21, vr22, vr23, vr24, vr25, vr26, vr27, vr28, vr29, vr30, vr31, vr32, vr33, vr34, opS, fpS, okP, pack, nAl, allocA, shId, leaves, fillA, fillR, splice, Nat.reduceLT, Nat.reduceEqDiff, Nat.reduceLeDiff, Nat.reduceAdd, Nat.reduceSub, Nat.reduceMul, Int.reduceBEq, Int.reduceBNe, Int.reduceLT, Int.reduceLE, Int.reduceEq, reduceIte, reduceCtorEq, da, int, boolA, RetO_go, resT, resC, resN, retV1, retV2, retV3, retV0, Option.some.injEq, cl, ca, c1, ow, hf, e1, e2, e3]
      | false =>
        have hf : formM depth p n = ksM p none (keysM n) := by unfold formM; simp only [e1, e2, e3]; simp
        simp only [↓vp, vq0, vq1, vq2, vq3, vr0, vr1, vr2, vr3, vr4, vr5, vr6, vr7, vr8, vr9, vr10, vr11, vr12, vr13, vr14, vr15, vr16, vr17, vr18, vr19, vr20, vr21, vr22, vr23, vr24, vr25, vr26, vr27, vr28, vr29, vr30, vr31, vr32, vr33, vr34, opS, fpS, okP, pack, nAl, allocA, shId, leaves, fillA, fillR, splice, Nat.reduceLT, Nat.reduceEqDiff, Nat.reduceLeDiff, Nat.reduceAdd, Nat.reduceSub, Nat.reduceMul, Int.reduceBEq, Int.reduceBNe, Int.reduceLT, Int.reduceLE, Int.reduceEq, reduceIte, reduceCtorEq, da, int, boolA, cl, ca, c1, ow, n_take3', k70, h1, h2, lenY, e1, e2, e3]
        refine key hf _ ?_ ?_ ?_ ?_ ?_ <;> (try simp only [↓vp, vq0, vq1, vq2, vq3, vr0, vr1, vr2, vr3, vr4, vr5, vr6, vr7, vr8, vr9, vr10, vr11, vr12, vr13, vr14, vr15, vr16, vr17, vr18, vr19, vr20, vr21, vr22, vr23, vr24, vr25, vr26, vr27, vr28, vr29, vr30, vr31, vr32, vr33, vr34, opS, fpS, okP, pack, nAl, allocA, shId, leaves, fillA, fillR, splice, Nat.reduceLT, Nat.reduceEqDiff, Nat.reduceLeDiff, Nat.reduceAdd, Nat.reduceSub, Nat.reduceMul, Int.reduceBEq, Int.reduceBNe, Int.reduceLT, Int.reduceLE, Int.reduceEq, reduceIte, reduceCtorEq, da, int, boolA]) <;> rfl
end Go.VI

set_option linter.unusedVariables false
set_option linter.unusedSimpArgs false
set_option maxRecDepth 100000
namespace Go.VI
attribute [local congr] AW_congr OW_congr DW_congr NW_congr VW_congr GW_congr PW_congr KW_congr ite_congr' GV_congr CV_congr
def RetE (rs : List ARes) (R : AV) (P : Heap → Prop) (x : AExit) (e : Env) (H : Heap) : Prop := leaves x = true ∧ resultsA H e rs = some R ∧ P H
theorem call_oE {ft : FT} {k : FuncId} {first caps args : List AV} {H : Heap} {n : Nat} {rs : List ARes} {body : ACode} {R : AV} {P : Heap → Prop} (hk : ft k = some (.go false n rs body)) (hl : (first ++ args ++ caps).length ≤ n)
    (h : AW ft body (mkE n (ofL (first ++ args ++ caps))) (hx H []) (RetE rs R P)) : ∃ H1, callL ft (.fn (.func k) first caps) args H = some (R, H1) ∧ P H1 := by
  obtain ⟨x, e', Hc, h1, hx_, h2, h3⟩ := h
  refine ⟨Hc, ?_, h3⟩
  refine call_o hk hl ⟨x, e', Hc, h1, hx_, h2, rfl⟩
theorem RetE_go {rs : List ARes} {R : AV} {P : Heap → Prop} {x : AExit} {n : Nat} {f : Nat → AV} {H : Heap} : RetE rs R P x (mkE n f) H ↔ leaves x = true ∧ (rs.mapM (resOf H (mkE n f))).map retV = some R ∧ P H := Iff.rfl
theorem KW_ex {f : AV} {args : List AV} {K : Heap} {Q : AV → Heap → Prop} {R : AV} {P : Heap → Prop} (h : ∃ H', callL ft f args K = some (R, H') ∧ P H') (hq : ∀ H', P H' → Q R H') : KW ft f args K Q := by
  obtain ⟨H', h1, h2⟩ := h
  exact ⟨R, H', h1, hq H' h2⟩
theorem hx_hx (H : Heap) (L M : List Blk) : hx (hx H L) M = hx H (L ++ M) := by simp [hx]
theorem look_go {nid : Nat} {e : Env} {H : Heap} {kd : Option IntKind} {z : AV} {m k : Operand} : opS nid e H (.look kd z m k false) = match ev e m with
    | .mp id => match H.get id with
      | some (.mpb kd' es) => if kd' = kd ∧ keyOk kd (ev e k) = true then some ((lookE (ev e k) es).getD z, H) else none
      | _ => none
    | _ => none := rfl
theorem mput_go {nid : Nat} {e : Env} {H : Heap} {kd : Option IntKind} {m k v : Operand} : opS nid e H (.mput kd m k v) = match ev e m with
    | .mp id => match H.get id with
      | some (.mpb kd' es) => if kd' = kd ∧ keyOk kd (ev e k) = true then some (.bad, H.set id (.mpb kd (putE (ev e k) (ev e v) es))) else none
      | _ => none
    | _ => none := rfl
theorem clI (k : IntKind) (n : Int) : closedL [.sc (.int k n)] = true := rfl
structure WM where
  items : List ItemM
  refs : List Int
  depth : Int
def intC (r : Int) : List AV := [int r]
def encN (l : List Int) : AV := .lst (l.map intC)
def seenE (l : List Int) : List (AV × AV) := l.map fun r => (int r, int 1)
theorem look_seen (r : Int) : ∀ l : List Int, lookE (int r) (seenE l) = if l.contains r then some (int 1) else none
  | [] => rfl
  | x :: l => by
    show (if keyEq (int r) (int x) then some (int 1) else lookE (int r) (seenE l)) = _
    have : keyEq (int r) (int x) = (r == x) := rfl
    rw [this, look_seen r l, List.contains_cons]
    cases h : (r == x) <;> simp
theorem put_seen (r : Int) : ∀ l : List Int, l.contains r = false → putE (int r) (int 1) (seenE l) = seenE (l ++ [r])
  | [], _ => rfl
  | x :: l, h => by
    rw [List.contains_cons, Bool.or_eq_false_iff] at h
    show (if keyEq (int r) (int x) then (int r, int 1) :: seenE l else (int x, int 1) :: putE (int r) (int 1) (seenE l)) = _
    have : keyEq (int r) (int x) = (r == x) := rfl
    rw [this, h.1, put_seen r l h.2]
    rfl
structure WS (H : Heap) (l : List NamedM) (wid mid : Nat) (w : WM) : Prop where
  ex : ∃ sI sR, H.get wid = some (.box false [srcF l, sI, sR, int w.depth, .mp mid]) ∧ Rep H 4 sI (w.items.map itemC) ∧ Rep H 1 sR (w.refs.map intC) ∧ H.get mid = some (.mpb (some .i64) (seenE w.refs))
/-- All boxes but one stay. -/
def Keep (wid : Nat) (H H' : Heap) : Prop := H.next ≤ H'.next ∧ ∀ id fz c, id ≠ wid → H.get id = some (.box fz c) → H'.get id = some (.box fz c)
theorem Keep.rfl' {wid : Nat} {H : Heap} : Keep wid H H := ⟨Nat.le_refl _, fun _ _ _ _ h => h⟩
theorem Keep.trans {wid : Nat} {H H' H'' : Heap} (h : Keep wid H H') (h' : Keep wid H' H'') : Keep wid H H'' := ⟨Nat.le_trans h.1 h'.1, fun id fz c hi hg => h'.2 id fz c hi (h.2 id fz c hi hg)⟩
theorem Keep.hx {wid : Nat} {H : Heap} (L : List Blk) : Keep wid H (hx H L) := ⟨by rw [hx_next]; omega, fun _ _ _ _ h => get_old h L⟩
theorem WS.hx {H : Heap} {l : List NamedM} {wid mid : Nat} {w : WM} (h : WS H l wid mid w) (L : List Blk) : WS (hx H L) l wid mid w := by
  obtain ⟨sI, sR, h1, h2, h3, h4⟩ := h.ex
  exact ⟨sI, sR, get_old h1 L, h2.mono fun id h => get_old h L, h3.mono fun id h => get_old h L, get_old h4 L⟩
def noNode : NodeM := ⟨false, [], []⟩
def nodeW (l : List NamedM) (p : PlaceM) (w : WM) : NodeM × Int × WM :=
  if 12 < p.deep then (noNode, 130, w)
  else if (nodeM l p.ref).2 ≠ 0 then (noNode, (nodeM l p.ref).2, w)
  else if w.refs.contains p.ref || !formM w.depth p (nodeM l p.ref).1 then (noNode, 131, w)
  else ((nodeM l p.ref).1, 0, ⟨if (nodeM l p.ref).1.leaf then w.items ++ (nodeM l p.ref).1.items else w.items, w.refs ++ [p.ref], if (nodeM l p.ref).1.leaf then p.deep else w.depth⟩)
/-- The node that is told: none where an error is. -/
def nodeR (n : NodeM) (e : Int) : List AV := if e = 0 then nodeC n else [boolA false, .sc (.slice none 0 0), .sc (.slice none 0 0)]
theorem s55 {l : List NamedM} (hl : okL l) (ht : tinyL l) {p : PlaceM} {a b : AV} (ha : NB a p.lk) (hb : NB b p.hk) (hp : okP_ p) {H : Heap} {wid mid : Nat} {w : WM} (hw : WS H l wid mid w) (hr : w.refs.length ≤ 1000) (hi : w.items.length ≤ 1000000) :
    ∃ H', callL ft (.fn (.func 55) [] []) [.ptr wid 0 0, .agg (placeC p a b)] H = some (.tup [.agg (nodeR (nodeW l p w).1 (nodeW l p w).2.1), int (nodeW l p w).2.1], H') ∧ WS H' l wid mid (nodeW l p w).2.2 ∧ Keep wid H H' := by
  refine call_oE rfl (by simp) ?_
  obtain ⟨sI, sR, g1, g2, g3, g4⟩ := hw.ex
  have cl : (placeC p a b).length = 6 := rfl
  have c6 : (placeC p a b).take 6 = placeC p a b := rfl
  have ca : oneAll (placeC p a b) = true := by
    show (true && (true && (true && (a.one && (true && (b.one && true)))))) = true
    rw [ha.one, hb.one]; rfl
  have c0 : (placeC p a b).take 1 = [int p.ref] := rfl
  have c1 : ((placeC p a b).drop 1).take 1 = [int p.deep] := rfl
  have ow := get_old g1
  have om := get_old g4
  have lw := Heap.get_lt g1
  have nw0 : (wid = H.next) = False := eq_false (by omega)
  have nwk : ∀ k, (wid = H.next + k) = False := fun k => eq_false (by omega)
  unfold c55 r55
  by_cases e1 : 12 < p.deep
  · have hf : nodeW l p w = (noNode, 130, w) := by unfold nodeW; rw [if_pos e1]
    rw [hf]
    simp only [↓vp, vq0, vq1, vq2, vq3, vr0, vr1, vr2, vr3, vr4, vr5, vr6, vr7, vr8, vr9, vr10, vr11, vr12, vr13, vr14, vr15, vr16, vr17, vr18, vr19, vr20, vr21, vr22, vr23, vr24, vr25, vr26, vr27, vr28, vr29, vr30, vr31, vr32, vr33, vr34, opS, fpS, okP, pack, nAl, allocA, shId, leaves, fillA, fillR, splice, Nat.reduceLT, Nat.reduceEqDiff, Nat.reduceLeDiff, Nat.reduceAdd, Nat.reduceSub, Nat.reduceMul, Int.reduceBEq, Int.reduceBNe, Int.reduceLT, Int.reduceLE, Int.reduceEq, reduceIte, reduceCtorEq, da, int, boolA, cl, c6, ca, c0, c1, e1, RetE_go, resT, resC, resN, retV2]
    exact ⟨rfl, hw.hx _, Keep.hx _⟩
  · obtain ⟨t1, t2⟩ := tiny_node ht p.ref
    have o1 := ok_node hl p.ref
    have x45 := fun K L Q => k45 hl ht (ref := p.ref) (K := K) (L := L) (Q := Q)
    have hpv : pureV ft (srcF l) [int p.ref] = true := rfl
    simp only [int] at x45 hpv
    cases e2 : ((nodeM l p.ref).2 != 0) with
    | true =>
      have e2' : (nodeM l p.ref).2 ≠ 0 := by simpa using e2
      have hf : nodeW l p w = (noNode, (nodeM l p.ref).2, w) := by unfold nodeW; rw [if_neg e1, if_pos e2']
      rw [hf]
      generalize nodeM l p.ref = nn at *
      have hR : nodeR noNode nn.2 = [boolA false, .sc (.slice none 0 0), .sc (.slice none 0 0)] := by unfold nodeR; rw [if_neg e2']
      simp only [↓vp, vq0, vq1, vq2, vq3, vr0, vr1, vr2, vr3, vr4, vr5, vr6, vr7, vr8, vr9, vr10, vr11, vr12, vr13, vr14, vr15, vr16, vr17, vr18, vr19, vr20, vr21, vr22, vr23, vr24, vr25, vr26, vr27, vr28, vr29, vr30, vr31, vr32, vr33, vr34, opS, fpS, okP, pack, nAl, allocA, shId, leaves, fillA, fillR, splice, Nat.reduceLT, Nat.reduceEqDiff, Nat.reduceLeDiff, Nat.reduceAdd, Nat.reduceSub, Nat.reduceMul, Int.reduceBEq, Int.reduceBNe, Int.reduceLT, Int.reduceLE, Int.reduceEq, reduceIte, reduceCtorEq, da, int, boolA, cl, c6, ca, c0, c1, e1, ow, x45, hpv, e2, hR, RetE_go, resT, resC, resN, retV2, nw0, nwk]
      exact ⟨hw.hx _, Keep.hx _⟩
    | false =>
      have e2' : ¬ (nodeM l p.ref).2 ≠ 0 := by simpa using e2
      have x68 : ∀ (L : List Blk) (Q : AV → Heap → Prop), KW ft (.fn (.func 68) [] []) [.ptr wid 0 0, .agg (placeC p a b), .agg (nodeC (nodeM l p.ref).1)] (hx H L) Q ↔ Q (boolA (formM w.depth p (nodeM l p.ref).1)) (hx H (L ++ [.box false (placeC p a b), .box false (nodeC (nodeM l p.ref).1)])) :=
        fun L Q => by
          have := s68 ha hb hp o1 t1 t2 (get_old g1 L)
          rw [hx_hx] at this
          exact KW_of this
      have lk := look_seen p.ref w.refs
      cases e3 : w.refs.contains p.ref with
      | true =>
        have hf : nodeW l p w = (noNode, 131, w) := by unfold nodeW; rw [if_neg e1, if_neg e2', e3]; rfl
        rw [hf]
        have hR : nodeR noNode 131 = [boolA false, .sc (.slice none 0 0), .sc (.slice none 0 0)] := rfl
        rw [e3] at lk
        generalize nodeM l p.ref = nn at *
        simp only [int] at lk
        simp only [↓vp, vq0, vq1, vq2, vq3, vr0, vr1, vr2, vr3, vr4, vr5, vr6, vr7, vr8, vr9, vr10, vr11, vr12, vr13, vr14, vr15, vr16, vr17, vr18, vr19, vr20, vr21, vr22, vr23, vr24, vr25, vr26, vr27, vr28, vr29, vr30, vr31, vr32, vr33, vr34, opS, fpS, okP, pack, nAl, allocA, shId, leaves, fillA, fillR, splice, Nat.reduceLT, Nat.reduceEqDiff, Nat.reduceLeDiff, Nat.reduceAdd, Nat.reduceSub, Nat.reduceMul, Int.reduceBEq, Int.reduceBNe, Int.reduceLT, Int.reduceLE, Int.reduceEq, reduceIte, reduceCtorEq, da, int, boolA, cl, c6, ca, c0, c1, e1, ow, om, x45, hpv, e2, hR, RetE_go, resT, resC, resN, retV2, nw0, nwk, look_go, lk, keyOk, Option.getD_some]
        exact ⟨hw.hx _, Keep.hx _⟩
      | false =>
        rw [e3] at lk
        cases e4 : formM w.depth p (nodeM l p.ref).1 with
        | false =>
          have hf : nodeW l p w = (noNode, 131, w) := by unfold nodeW; rw [if_neg e1, if_neg e2', e3, e4]; rfl
          rw [hf]
          have hR : nodeR noNode 131 = [boolA false, .sc (.slice none 0 0), .sc (.slice none 0 0)] := rfl
          rw [e4] at x68
          generalize nodeM l p.ref = nn at *
          simp only [int, boolA] at lk x68
          simp only [↓vp, vq0, vq1, vq2, vq3, vr0, vr1, vr2, vr3, vr4, vr5, vr6, vr7, vr8, vr9, vr10, vr11, vr12, vr13, vr14, vr15, vr16, vr17, vr18, vr19, vr20, vr21, vr22, vr23, vr24, vr25, vr26, vr27, vr28, vr29, vr30, vr31, vr32, vr33, vr34, opS, fpS, okP, pack, nAl, allocA, shId, leaves, fillA, fillR, splice, Nat.reduceLT, Nat.reduceEqDiff, Nat.reduceLeDiff, Nat.reduceAdd, Nat.reduceSub, Nat.reduceMul, Int.reduceBEq, Int.reduceBNe, Int.reduceLT, Int.reduceLE, Int.reduceEq, reduceIte, reduceCtorEq, da, int, boolA, cl, c6, ca, c0, c1, e1, ow, om, x45, x68, hpv, e2, hR, RetE_go, resT, resC, resN, retV2, nw0, nwk, look_go, lk, keyOk, Option.getD_none]
          exact ⟨hw.hx _, Keep.hx _⟩
        | true =>
          have hf : nodeW l p w = ((nodeM l p.ref).1, 0, ⟨if (nodeM l p.ref).1.leaf then w.items ++ (nodeM l p.ref).1.items else w.items, w.refs ++ [p.ref], if (nodeM l p.ref).1.leaf then p.deep else w.depth⟩) := by unfold nodeW; rw [if_neg e1, if_neg e2', e3, e4]; rfl
          rw [hf]
          have hR : nodeR (nodeM l p.ref).1 0 = nodeC (nodeM l p.ref).1 := rfl
          rw [e4] at x68
          have lm := Heap.get_lt g4
          have hmw : mid ≠ wid := fun e => by rw [e, g1] at g4; cases g4
          have ps := put_seen p.ref w.refs e3
          have pm := fun (L : List Blk) (b : Blk) => hx_set_old H L b mid lm
          obtain ⟨H1, hH1⟩ : ∃ H1, H1 = H.set mid (.mpb (some .i64) (seenE (w.refs ++ [p.ref]))) := ⟨_, rfl⟩
          have n1 : H1.next = H.next := by rw [hH1, Heap.next_set]
          have q1 : ∀ j b, j ≠ mid → H.get j = some b → H1.get j = some b := fun j b hj hg => by rw [hH1, Heap.get_set_ne _ hj, hg]
          have gm1 : H1.get mid = some (.mpb (some .i64) (seenE (w.refs ++ [p.ref]))) := by rw [hH1, Heap.get_set_self _ lm]
          have gw1 := q1 _ _ hmw.symm g1
          have ow1 := get_old gw1
          have rI1 : Rep H1 4 sI (w.items.map itemC) := g2.mono fun id h => q1 id _ (fun e => by rw [e, g4] at h; cases h) h
          have rR1 : Rep H1 1 sR (w.refs.map intC) := g3.mono fun id h => q1 id _ (fun e => by rw [e, g4] at h; cases h) h
          have apR := fun nid L => appA_rep (nid := nid) (bytes := 8) rR1 (xs := [intC p.ref]) (by simp) rfl (by simp only [List.length_map, List.length_singleton]; omega) L
          obtain ⟨H2, hH2⟩ : ∃ H2, H2 = kill H1 sR := ⟨_, rfl⟩
          rw [← hH2] at apR
          have n2 : H2.next = H.next := by rw [hH2, kill_next, n1]
          have gm2 : H2.get mid = some (.mpb (some .i64) (seenE (w.refs ++ [p.ref]))) := by rw [hH2]; exact kill_get rR1 gm1 fun r h => by cases h
          have gw2 : H2.get wid = some (.box false [srcF l, sI, sR, int w.depth, .mp mid]) := by rw [hH2]; exact kill_get rR1 gw1 fun r h => by cases h
          have ow2 := get_old gw2
          have lw2 := Heap.get_lt gw2
          have rI2 : Rep H2 4 sI (w.items.map itemC) := rI1.mono fun id h => by rw [hH2]; exact kill_get rR1 h fun r h => by cases h
          have pw := fun (L : List Blk) (b : Blk) => hx_set_old H2 L b wid lw2
          obtain ⟨H3, hH3⟩ : ∃ H3, H3 = H2.set wid (.box false [srcF l, sI, .sl (H.next + 6) 0 (w.refs.length + 1), int w.depth, .mp mid]) := ⟨_, rfl⟩
          have n3 : H3.next = H.next := by rw [hH3, Heap.next_set, n2]
          have gw3 : H3.get wid = some (.box false [srcF l, sI, .sl (H.next + 6) 0 (w.refs.length + 1), int w.depth, .mp mid]) := by rw [hH3, Heap.get_set_self _ lw2]
          have ow3 := get_old gw3
          have gm3 : H3.get mid = some (.mpb (some .i64) (seenE (w.refs ++ [p.ref]))) := by rw [hH3, Heap.get_set_ne _ hmw, gm2]
          have rI3 : Rep H3 4 sI (w.items.map itemC) := rI2.mono fun id h => by rw [hH3, Heap.get_set_ne _ (fun e => by rw [e, gw2] at h; cases h), h]
          have K3 : Keep wid H H3 := ⟨by omega, fun id fz c hid hg => by
            rw [hH3, Heap.get_set_ne _ hid, hH2]
            exact kill_get rR1 (q1 _ _ (fun e => by rw [e, g4] at hg; cases hg) hg) fun r h => by cases h⟩
          have pm1 : ∀ L, (hx H L).set mid (.mpb (some .i64) (seenE (w.refs ++ [p.ref]))) = hx H1 L := fun L => by rw [hH1, pm]
          have pw1 : ∀ L, (hx H2 L).set wid (.box false [srcF l, sI, .sl (H.next + 6) 0 (w.refs.length + 1), int w.depth, .mp mid]) = hx H3 L := fun L => by rw [hH3, pw]
          clear pm pw hH1 hH2 hH3 ow2
          have ow2 := get_old gw2
          generalize nodeM l p.ref = nn at *
          obtain ⟨n, er⟩ := nn
          simp only [int, boolA] at lk x68 ps pw1 ow ow1 ow2 ow3 pm1
          simp only [intC, int] at apR
          cases e5 : n.leaf with
          | false =>
            simp only [↓vp, vq0, vq1, vq2, vq3, vr0, vr1, vr2, vr3, vr4, vr5, vr6, vr7, vr8, vr9, vr10, vr11, vr12, vr13, vr14, vr15, vr16, vr17, vr18, vr19, vr20, vr21, vr22, vr23, vr24, vr25, vr26, vr27, vr28, vr29, vr30, vr31, vr32, vr33, vr34, opS, fpS, okP, pack, nAl, allocA, shId, leaves, fillA, fillR, splice, Nat.reduceLT, Nat.reduceEqDiff, Nat.reduceLeDiff, Nat.reduceAdd, Nat.reduceSub, Nat.reduceMul, Int.reduceBEq, Int.reduceBNe, Int.reduceLT, Int.reduceLE, Int.reduceEq, reduceIte, reduceCtorEq, da, int, boolA, cl, c6, ca, c0, c1, e1, ow, om, x45, x68, hpv, e2, hR, RetE_go, resT, resC, resN, retV2, nw0, nwk, look_go, lk, keyOk, Option.getD_none, mput_go, ps, pm1, ow1, n1, n2, n3, apR, pw1, ow2, ow3, e5, clI]
            exact ⟨⟨sI, .sl (H.next + 6) 0 (w.refs.length + 1), ow3 _, rI3.mono fun id h => get_old h _, .inr ⟨H.next + 6, by simp, by simp only [↓vp, vq0, vq1, vq2, vq3, vr0, vr1, vr2, vr3, vr4, vr5, vr6, vr7, vr8, vr9, vr10, vr11, vr12, vr13, vr14, vr15, vr16, vr17, vr18, vr19, vr20, vr21, vr22, vr23, vr24, vr25, vr26, vr27, vr28, vr29, vr30, vr31, vr32, vr33, vr34, opS, fpS, okP, pack, nAl, allocA, shId, leaves, fillA, fillR, splice, Nat.reduceLT, Nat.reduceEqDiff, Nat.reduceLeDiff, Nat.reduceAdd, Nat.reduceSub, Nat.reduceMul, Int.reduceBEq, Int.reduceBNe, Int.reduceLT, Int.reduceLE, Int.reduceEq, reduceIte, reduceCtorEq, n3]; simp [intC, int]⟩, get_old gm3 _⟩, K3.trans (Keep.hx _)⟩
          | true =>
            have hsI : shId sI = [] ∨ ∃ id, shId sI = [id] ∧ id < H.next := by
              rcases g2 with ⟨rfl, _⟩ | ⟨id, rfl, h⟩
              · exact .inl rfl
              · exact .inr ⟨id, rfl, Heap.get_lt h⟩
            have cpt : compat (some (true, (H.next + 7) :: (shId sI ++ []))) (some (false, [H.next])) = true := by
              have q0 : ¬ (7 : Nat) = 0 := by decide
              rcases hsI with h | ⟨id, h, hlt⟩
              · rw [h]; simp [compat]
              · rw [h]
                have : id ≠ H.next := by omega
                simp [compat, this]
            obtain ⟨S', H4, X, apI, n4, gw4, gm4, rI4, K4⟩ : ∃ S' H4 X, (∀ L : List Blk, L[7]? = some .dead → appA (H.next + 7) (hx H3 L) 4 64 sI (n.items.map itemC) = some (S', hx H4 (L.set 7 X))) ∧ H4.next = H.next ∧
                H4.get wid = some (.box false [srcF l, sI, .sl (H.next + 6) 0 (w.refs.length + 1), int w.depth, .mp mid]) ∧ H4.get mid = some (.mpb (some .i64) (seenE (w.refs ++ [p.ref]))) ∧
                (S' = .sc (.slice none 0 0) ∧ w.items ++ n.items = [] ∨ S' = .sl (H.next + 7) 0 (w.items.length + n.items.length) ∧ X = .row false 4 (w.items.map itemC ++ n.items.map itemC)) ∧ Keep wid H H4 := by
              have pt : ∀ (K : Heap) (L : List Blk) (B : Blk), K.next = H.next → L[7]? = some .dead → (hx K L).put (H.next + 7) B = hx K (L.set 7 B) := fun K L B hk hl => by
                rw [hx_putN hk, if_pos (List.getElem?_eq_some_iff.1 hl).1]
              have t1' : n.items.length ≤ 1000 := t1
              have asx : allSz 4 (n.items.map itemC) = true := by simp [allSz, len_itemC]
              rcases rI3 with ⟨rfl, hi0⟩ | ⟨id, rfl, hi0⟩
              · have hi0 : w.items = [] := by simpa using hi0
                by_cases hn : n.items = []
                · refine ⟨_, H3, .dead, fun L hl => ?_, n3, gw3, gm3, .inl ⟨rfl, by rw [hi0, hn]; rfl⟩, K3⟩
                  rw [appA_nil, hn, if_pos (by rfl)]
                  obtain ⟨h1, h2⟩ := List.getElem?_eq_some_iff.1 hl
                  rw [← h2, List.set_getElem_self]
                · refine ⟨_, H3, _, fun L hl => ?_, n3, gw3, gm3, .inr ⟨rfl, rfl⟩, K3⟩
                  rw [appA_nil, if_neg (by simpa using hn), if_pos ⟨by simp only [List.length_map]; omega, asx⟩, pt _ _ _ n3 hl, hi0]
                  simp
              · have lid := Heap.get_lt hi0
                have hne : id ≠ wid := fun e => by rw [e, gw3] at hi0; cases hi0
                have hnm : id ≠ mid := fun e => by rw [e, gm3] at hi0; cases hi0
                refine ⟨_, H3.set id .dead, _, fun L hl => ?_, by rw [Heap.next_set, n3], by rw [Heap.get_set_ne _ hne.symm, gw3], by rw [Heap.get_set_ne _ hnm.symm, gm3], .inr ⟨rfl, rfl⟩,
                  K3.trans ⟨by rw [Heap.next_set]; omega, fun j fz c _ hg => by rw [Heap.get_set_ne _ (fun e => by rw [e, hi0] at hg; cases hg), hg]⟩⟩
                rw [appA_sl, hx_get_old _ _ _ lid, hi0]
                simp only
                rw [if_pos ⟨by trivial, by simp, by simp only [List.length_map]; omega, asx⟩, hx_set_old _ _ _ _ lid, pt _ _ _ (by rw [Heap.next_set, n3]) hl, List.drop_zero, List.take_of_length_le (Nat.le_refl _)]
                simp
            have lw4 := Heap.get_lt gw4
            obtain ⟨H5, hH5⟩ : ∃ H5, H5 = H4.set wid (.box false [srcF l, S', .sl (H.next + 6) 0 (w.refs.length + 1), int w.depth, .mp mid]) := ⟨_, rfl⟩
            have n5 : H5.next = H.next := by rw [hH5, Heap.next_set, n4]
            have gw5 : H5.get wid = some (.box false [srcF l, S', .sl (H.next + 6) 0 (w.refs.length + 1), int w.depth, .mp mid]) := by rw [hH5, Heap.get_set_self _ lw4]
            have lw5 := Heap.get_lt gw5
            obtain ⟨H6, hH6⟩ : ∃ H6, H6 = H5.set wid (.box false [srcF l, S', .sl (H.next + 6) 0 (w.refs.length + 1), int p.deep, .mp mid]) := ⟨_, rfl⟩
            have n6 : H6.next = H.next := by rw [hH6, Heap.next_set, n5]
            have gw6 : H6.get wid = some (.box false [srcF l, S', .sl (H.next + 6) 0 (w.refs.length + 1), int p.deep, .mp mid]) := by rw [hH6, Heap.get_set_self _ lw5]
            have pw5 : ∀ L, (hx H4 L).set wid (.box false [srcF l, S', .sl (H.next + 6) 0 (w.refs.length + 1), int w.depth, .mp mid]) = hx H5 L := fun L => by rw [hH5, hx_set_old _ _ _ _ lw4]
            have pw6 : ∀ L, (hx H5 L).set wid (.box false [srcF l, S', .sl (H.next + 6) 0 (w.refs.length + 1), int p.deep, .mp mid]) = hx H6 L := fun L => by rw [hH6, hx_set_old _ _ _ _ lw5]
            have ow4 := get_old gw4
            have ow5 := get_old gw5
            have o1' : S'.one = true := by rcases rI4 with ⟨h, _⟩ | ⟨h, _⟩ <;> rw [h] <;> rfl
            have oc' : S'.cells = [S'] := by rcases rI4 with ⟨h, _⟩ | ⟨h, _⟩ <;> rw [h] <;> rfl
            have rI : ∀ (l : List ItemM) (H : Heap), rowsOf H (encI l) = some (l.map itemC) := fun _ _ => rfl
            have sS : sids [S'] = some [] ∨ sids [S'] = some [H.next + 7] := by rcases rI4 with ⟨h, _⟩ | ⟨h, _⟩ <;> rw [h] <;> simp only [↓vp, vq0, vq1, vq2, vq3, vr0, vr1, vr2, vr3, vr4, vr5, vr6, vr7, vr8, vr9, vr10, vr11, vr12, vr13, vr14, vr15, vr16, vr17, vr18, vr19, vr20, vr21, vr22, vr23, vr24, vr25, vr26, vr27, vr28, vr29, vr30, vr31, vr32, vr33, vr34, opS, fpS, okP, pack, nAl, allocA, shId, leaves, fillA, fillR, splice, Nat.reduceLT, Nat.reduceEqDiff, Nat.reduceLeDiff, Nat.reduceAdd, Nat.reduceSub, Nat.reduceMul, Int.reduceBEq, Int.reduceBNe, Int.reduceLT, Int.reduceLE, Int.reduceEq, reduceIte, reduceCtorEq] <;> simp
            obtain ⟨tS, sS, hS⟩ : ∃ tS, sids [S'] = some tS ∧ compat (some (false, [H.next])) (some (true, wid :: tS)) = true := by
              rcases sS with h | h
              · exact ⟨_, h, by simp [compat]; omega⟩
              · exact ⟨_, h, by simp [compat]; omega⟩
            have hg7 : ∀ (a b c d e f g : Blk), [a, b, c, d, e, f, g, .dead][7]? = some .dead := fun _ _ _ _ _ _ _ => rfl
            simp only [int] at pw5 pw6 ow4 ow5
            clear hi rI1 rI2 rI3 g2 hw
            simp only [↓vp, vq0, vq1, vq2, vq3, vr0, vr1, vr2, vr3, vr4, vr5, vr6, vr7, vr8, vr9, vr10, vr11, vr12, vr13, vr14, vr15, vr16, vr17, vr18, vr19, vr20, vr21, vr22, vr23, vr24, vr25, vr26, vr27, vr28, vr29, vr30, vr31, vr32, vr33, vr34, opS, fpS, okP, pack, nAl, allocA, shId, leaves, fillA, fillR, splice, Nat.reduceLT, Nat.reduceEqDiff, Nat.reduceLeDiff, Nat.reduceAdd, Nat.reduceSub, Nat.reduceMul, Int.reduceBEq, Int.reduceBNe, Int.reduceLT, Int.reduceLE, Int.reduceEq, reduceIte, reduceCtorEq, da, int, boolA, cl, c6, ca, c0, c1, e1, ow, om, x45, x68, hpv, e2, hR, RetE_go, resT, resC, resN, retV2, nw0, nwk, look_go, lk, keyOk, Option.getD_none, mput_go, ps, pm1, ow1, n1, n2, n3, clI, apR, pw1, ow2, ow3, e5, rI, apI, n4, n5, n6, ow4, ow5, pw5, pw6, o1', oc', sS, clI]
            have gm6 : H6.get mid = some (.mpb (some .i64) (seenE (w.refs ++ [p.ref]))) := by rw [hH6, Heap.get_set_ne _ hmw, hH5, Heap.get_set_ne _ hmw, gm4]
            have K6 : Keep wid H H6 := K4.trans ⟨by omega, fun id fz c hid hg => by rw [hH6, Heap.get_set_ne _ hid, hH5, Heap.get_set_ne _ hid, hg]⟩
            have hN : ∀ L, (hx H6 L).get (H.next + 7) = L[7]? := fun L => hx_getN n6
            have hN6 : ∀ L, (hx H6 L).get (H.next + 6) = L[6]? := fun L => hx_getN n6
            refine ⟨?_, ⟨S', .sl (H.next + 6) 0 (w.refs.length + 1), get_old gw6 _, ?_, .inr ⟨H.next + 6, by simp, by rw [hN6]; simp [intC, int]⟩, get_old gm6 _⟩, K6.trans (Keep.hx _)⟩
            · rw [Bool.and_eq_true]
              exact ⟨cpt, hS⟩
            · rcases rI4 with ⟨h, h'⟩ | ⟨h, h'⟩
              · exact .inl ⟨h, by rw [h']; rfl⟩
              · refine .inr ⟨H.next + 7, by rw [h]; simp, ?_⟩
                rw [hN, h', List.map_append]
                rfl
end Go.VI

set_option linter.unusedVariables false
set_option linter.unusedSimpArgs false
set_option maxRecDepth 100000
namespace Go.VI
attribute [local congr] AW_congr OW_congr DW_congr NW_congr VW_congr GW_congr PW_congr KW_congr ite_congr' GV_congr CV_congr
/-- Through the kids, till an error is told. -/
def goM (v : PlaceM → WM → Int × WM) (p : PlaceM) (n : NodeM) : List Nat → WM → Int × WM
  | [], w => (0, w)
  | k :: ks, w => if (v (kidM p n k) w).1 ≠ 0 then v (kidM p n k) w else goM v p n ks (v (kidM p n k) w).2
/-- A place, and all below it. -/
def visitM (l : List NamedM) : Nat → PlaceM → WM → Int × WM
  | 0, _, w => (130, w)
  | d + 1, p, w => if (nodeW l p w).2.1 ≠ 0 then ((nodeW l p w).2.1, (nodeW l p w).2.2) else goM (visitM l d) p (nodeW l p w).1 (List.range (nodeW l p w).1.kids.length) (nodeW l p w).2.2
/-- What a walker holds is bounded. -/
structure okW (l : List NamedM) (w : WM) : Prop where
  nd : w.refs.Nodup
  mem : ∀ r ∈ w.refs, ∃ x ∈ l, x.ref = r
  len : w.items.length ≤ 1000 * w.refs.length
theorem okW_node {l : List NamedM} (ht : tinyL l) {p : PlaceM} {w : WM} (h : okW l w) : okW l (nodeW l p w).2.2 := by
  unfold nodeW
  split
  · exact h
  · split
    · exact h
    · rename_i _ he
      split
      · exact h
      · rename_i hc
        simp only [Bool.or_eq_true, not_or, Bool.not_eq_true] at hc
        have hnm : p.ref ∉ w.refs := by simpa using hc.1
        refine ⟨?_, fun r hr => ?_, ?_⟩
        · exact List.nodup_append.2 ⟨h.nd, by simp, fun a ha b hb => by
            rw [List.mem_singleton] at hb
            subst hb
            exact fun e => hnm (e ▸ ha)⟩
        · rcases List.mem_append.1 hr with hr | hr
          · exact h.mem r hr
          · rw [List.mem_singleton] at hr
            subst hr
            cases hf : l.find? (fun x => x.ref == p.ref) with
            | none => simp [nodeM, hf] at he
            | some x => exact ⟨x, List.mem_of_find?_eq_some hf, by simpa using List.find?_some hf⟩
        · have := (tiny_node ht p.ref).1
          have := h.len
          simp only [List.length_append, List.length_singleton]
          split
          · rw [List.length_append]; omega
          · omega
theorem goM_inv {P : WM → Prop} {v : PlaceM → WM → Int × WM} (hv : ∀ p w, P w → P (v p w).2) (p : PlaceM) (n : NodeM) : ∀ (ks : List Nat) (w : WM), P w → P (goM v p n ks w).2
  | [], w, h => h
  | k :: ks, w, h => by
    rw [goM]
    split
    · exact hv _ _ h
    · exact goM_inv hv p n ks _ (hv _ _ h)
theorem okW_visit {l : List NamedM} (ht : tinyL l) : ∀ (d : Nat) (p : PlaceM) (w : WM), okW l w → okW l (visitM l d p w).2
  | 0, _, w, h => h
  | d + 1, p, w, h => by
    rw [visitM]
    split
    · exact okW_node ht h
    · exact goM_inv (okW_visit ht d) p _ _ _ (okW_node ht h)
theorem nd_le : ∀ (a b : List Int), a.Nodup → (∀ x ∈ a, x ∈ b) → a.length ≤ b.length
  | [], _, _, _ => Nat.zero_le _
  | x :: a, b, hn, h => by
    have hx_ := h x List.mem_cons_self
    have h1 := nd_le a (b.erase x) (List.nodup_cons.1 hn).2 fun y hy => (List.mem_erase_of_ne (fun (e : y = x) => (List.nodup_cons.1 hn).1 (e ▸ hy))).2 (h y (List.mem_cons_of_mem _ hy))
    rw [List.length_erase_of_mem hx_] at h1
    have : 0 < b.length := List.length_pos_of_mem hx_
    rw [List.length_cons]; omega
theorem okW.le {l : List NamedM} {w : WM} (h : okW l w) : w.refs.length ≤ l.length := by
  have := nd_le w.refs (l.map (·.ref)) h.nd fun x hx => by
    obtain ⟨y, hy, rfl⟩ := h.mem x hx
    exact List.mem_map.2 ⟨y, hy, rfl⟩
  simpa using this
theorem okP_kid {p : PlaceM} {n : NodeM} (hp : okP_ p) (hn : okN n) (k : Nat) : okP_ (kidM p n k) := by
  have hk : ∀ j : Nat, okB (((n.kids[j]?).map (·.key)).getD []) := fun j => by
    cases h : n.kids[j]? with
    | none => exact ok_nil
    | some x => exact hn.k.h x (List.mem_of_getElem? h)
  constructor
  · show okB (if 0 < k then _ else _)
    split
    · exact hk k
    · exact hp.l
  · show okB (if k + 1 < n.kids.length then _ else _)
    split
    · exact hk (k + 1)
    · exact hp.h
/-- The function that visits. -/
def visitF (i6 i7 : Nat) : AV := .fn (.func 54) [] [.ptr i6 0 0, .ptr i7 0 0]
theorem l54 {l : List NamedM} {v : PlaceM → WM → Int × WM} {wid mid i6 i7 i3 i5 : Nat} {p : PlaceM} {a b : AV} {n : NodeM} (ha : NB a p.lk) (hb : NB b p.hk) (hp : okP_ p) (hn : okN n) (hd : 1 ≤ p.deep ∧ p.deep ≤ 12)
   (hne : i6 ≠ wid ∧ i7 ≠ wid ∧ i3 ≠ wid ∧ i5 ≠ wid) (hok : ∀ p w, okW l w → okW l (v p w).2)
   (hv : ∀ (k : Nat) (w : WM) (H : Heap), okW l w → WS H l wid mid w → H.get i6 = some (.box false [.ptr wid 0 0]) → H.get i7 = some (.box false [visitF i6 i7]) →
     ∃ H', callL ft (visitF i6 i7) [.agg (placeE (kidM p n k))] H = some (int (v (kidM p n k) w).1, H') ∧ WS H' l wid mid (v (kidM p n k) w).2 ∧ Keep wid H H')
   (R : Int × WM) (K0 : Heap) {Q : AExit → Env → Heap → Prop}
   (hex : ∀ f' K, f' 6 = int R.1 → WS K l wid mid R.2 → Keep wid K0 K → Q (.exit 0) (mkE 32 f') (hx K [])) :
   ∀ (j k : Nat) (w : WM) (e : Int) (K : Heap) (f : Nat → AV), k + j = n.kids.length → R = (if e = 0 then goM v p n (List.range' k j) w else (e, w)) → okW l w → WS K l wid mid w → Keep wid K0 K →
    K.get i6 = some (.box false [.ptr wid 0 0]) → K.get i7 = some (.box false [visitF i6 i7]) → K.get i3 = some (.box false (placeC p a b)) → K.get i5 = some (.box false (nodeC n)) →
    f 2 = .ptr i7 0 0 → f 3 = .ptr i3 0 0 → f 5 = .ptr i5 0 0 → f 6 = int e → f 7 = int k →
    AW ft (.loop c54L0) (mkE 32 f) (hx K []) Q := by
  intro j
  have hi := hn.k.n
  unfold MX at hi
  induction j with
  | zero =>
    intro k w e K f hd' hR ho hw hK g6 g7 g3 g5 h2 h3 h5 h6 h7
    have g : ((k : Int) < n.kids.length) = False := eq_false (by omega)
    have o5 := get_old g5
    rw [AW_loop]
    unfold c54L0
    have hR' : R = (e, w) := by
      rw [hR]
      split
      · rename_i h; rw [h]; rfl
      · rfl
    simp only [↓vp, vq0, vq1, vq2, vq3, vr0, vr1, vr2, vr3, vr4, vr5, vr6, vr7, vr8, vr9, vr10, vr11, vr12, vr13, vr14, vr15, vr16, vr17, vr18, vr19, vr20, vr21, vr22, vr23, vr24, vr25, vr26, vr27, vr28, vr29, vr30, vr31, vr32, vr33, vr34, opS, fpS, okP, pack, nAl, allocA, shId, leaves, fillA, fillR, splice, Nat.reduceLT, Nat.reduceEqDiff, Nat.reduceLeDiff, Nat.reduceAdd, Nat.reduceSub, Nat.reduceMul, Int.reduceBEq, Int.reduceBNe, Int.reduceLT, Int.reduceLE, Int.reduceEq, reduceIte, reduceCtorEq, da, int, boolA, h5, h7, o5, g]
    refine hex _ _ ?_ ?_ hK
    · simp only [↓vp, vq0, vq1, vq2, vq3, vr0, vr1, vr2, vr3, vr4, vr5, vr6, vr7, vr8, vr9, vr10, vr11, vr12, vr13, vr14, vr15, vr16, vr17, vr18, vr19, vr20, vr21, vr22, vr23, vr24, vr25, vr26, vr27, vr28, vr29, vr30, vr31, vr32, vr33, vr34, opS, fpS, okP, pack, nAl, allocA, shId, leaves, fillA, fillR, splice, Nat.reduceLT, Nat.reduceEqDiff, Nat.reduceLeDiff, Nat.reduceAdd, Nat.reduceSub, Nat.reduceMul, Int.reduceBEq, Int.reduceBNe, Int.reduceLT, Int.reduceLE, Int.reduceEq, reduceIte, reduceCtorEq, da, int, boolA, h6, hR']
    · rw [hR']; exact hw
  | succ j ih =>
    intro k w e K f hd' hR ho hw hK g6 g7 g3 g5 h2 h3 h5 h6 h7
    have g : ((k : Int) < n.kids.length) = True := eq_true (by omega)
    have gk : k < n.kids.length := by omega
    have w1 := wrap_succ (show k < 9223372036854775807 by omega)
    have o5 := get_old g5
    have o7 := get_old g7
    have o3 := get_old g3
    have cl : (placeC p a b).length = 6 := rfl
    have c6 : (placeC p a b).take 6 = placeC p a b := rfl
    rw [AW_loop]
    unfold c54L0
    cases e1 : (e == 0) with
    | false =>
      have e1' : ¬ e = 0 := by simpa using e1
      rw [if_neg e1'] at hR
      simp only [↓vp, vq0, vq1, vq2, vq3, vr0, vr1, vr2, vr3, vr4, vr5, vr6, vr7, vr8, vr9, vr10, vr11, vr12, vr13, vr14, vr15, vr16, vr17, vr18, vr19, vr20, vr21, vr22, vr23, vr24, vr25, vr26, vr27, vr28, vr29, vr30, vr31, vr32, vr33, vr34, opS, fpS, okP, pack, nAl, allocA, shId, leaves, fillA, fillR, splice, Nat.reduceLT, Nat.reduceEqDiff, Nat.reduceLeDiff, Nat.reduceAdd, Nat.reduceSub, Nat.reduceMul, Int.reduceBEq, Int.reduceBNe, Int.reduceLT, Int.reduceLE, Int.reduceEq, reduceIte, reduceCtorEq, da, int, boolA, h5, h6, h7, o5, g, e1]
      refine hex _ _ ?_ ?_ hK
      · simp only [↓vp, vq0, vq1, vq2, vq3, vr0, vr1, vr2, vr3, vr4, vr5, vr6, vr7, vr8, vr9, vr10, vr11, vr12, vr13, vr14, vr15, vr16, vr17, vr18, vr19, vr20, vr21, vr22, vr23, vr24, vr25, vr26, vr27, vr28, vr29, vr30, vr31, vr32, vr33, vr34, opS, fpS, okP, pack, nAl, allocA, shId, leaves, fillA, fillR, splice, Nat.reduceLT, Nat.reduceEqDiff, Nat.reduceLeDiff, Nat.reduceAdd, Nat.reduceSub, Nat.reduceMul, Int.reduceBEq, Int.reduceBNe, Int.reduceLT, Int.reduceLE, Int.reduceEq, reduceIte, reduceCtorEq, da, int, boolA, h6, hR]
      · rw [hR]; exact hw
    | true =>
      have e1' : e = 0 := by simpa using e1
      subst e1'
      rw [if_pos rfl, List.range'_succ, goM] at hR
      have x56 := fun K L Q => k56 ha hb hn ⟨by omega, by omega⟩ gk (K := K) (L := L) (Q := Q)
      have pv : pureV ft (.fn (.func 56) [] []) [.agg (placeC p a b), .agg (nodeC n), .sc (.int .i64 k)] = true := by
        rcases ha with rfl | ⟨rfl, h⟩ <;> rcases hb with rfl | ⟨rfl, h'⟩ <;> rfl
      simp only [int] at x56
      simp only [visitF] at o7
      simp only [↓vp, vq0, vq1, vq2, vq3, vr0, vr1, vr2, vr3, vr4, vr5, vr6, vr7, vr8, vr9, vr10, vr11, vr12, vr13, vr14, vr15, vr16, vr17, vr18, vr19, vr20, vr21, vr22, vr23, vr24, vr25, vr26, vr27, vr28, vr29, vr30, vr31, vr32, vr33, vr34, opS, fpS, okP, pack, nAl, allocA, shId, leaves, fillA, fillR, splice, Nat.reduceLT, Nat.reduceEqDiff, Nat.reduceLeDiff, Nat.reduceAdd, Nat.reduceSub, Nat.reduceMul, Int.reduceBEq, Int.reduceBNe, Int.reduceLT, Int.reduceLE, Int.reduceEq, reduceIte, reduceCtorEq, da, int, boolA, h2, h3, h5, h6, h7, o5, o7, o3, g, cl, c6, x56, pv]
      rw [hx_nil K]
      refine KW_ex (hv k w K ho hw g6 g7) (fun K1 hP => ?_)
      obtain ⟨hW1, hK1⟩ := hP
      rw [← hx_nil K1]
      simp only [↓vp, vq0, vq1, vq2, vq3, vr0, vr1, vr2, vr3, vr4, vr5, vr6, vr7, vr8, vr9, vr10, vr11, vr12, vr13, vr14, vr15, vr16, vr17, vr18, vr19, vr20, vr21, vr22, vr23, vr24, vr25, vr26, vr27, vr28, vr29, vr30, vr31, vr32, vr33, vr34, opS, fpS, okP, pack, nAl, allocA, shId, leaves, fillA, fillR, splice, Nat.reduceLT, Nat.reduceEqDiff, Nat.reduceLeDiff, Nat.reduceAdd, Nat.reduceSub, Nat.reduceMul, Int.reduceBEq, Int.reduceBNe, Int.reduceLT, Int.reduceLE, Int.reduceEq, reduceIte, reduceCtorEq, da, int, boolA, h2, h3, h5, h6, h7, g, w1]
      refine ih (k + 1) (v (kidM p n k) w).2 (v (kidM p n k) w).1 K1 _ (by omega) ?_ (hok _ _ ho) hW1 (hK.trans hK1) (hK1.2 _ _ _ hne.1 g6) (hK1.2 _ _ _ hne.2.1 g7) (hK1.2 _ _ _ hne.2.2.1 g3) (hK1.2 _ _ _ hne.2.2.2 g5) ?_ ?_ ?_ ?_ ?_
      · rw [hR]
        by_cases h0 : (v (kidM p n k) w).1 = 0
        · rw [if_neg (by simpa using h0), if_pos h0]
        · rw [if_pos h0, if_neg h0]
      all_goals simp only [↓vp, vq0, vq1, vq2, vq3, vr0, vr1, vr2, vr3, vr4, vr5, vr6, vr7, vr8, vr9, vr10, vr11, vr12, vr13, vr14, vr15, vr16, vr17, vr18, vr19, vr20, vr21, vr22, vr23, vr24, vr25, vr26, vr27, vr28, vr29, vr30, vr31, vr32, vr33, vr34, opS, fpS, okP, pack, nAl, allocA, shId, leaves, fillA, fillR, splice, Nat.reduceLT, Nat.reduceEqDiff, Nat.reduceLeDiff, Nat.reduceAdd, Nat.reduceSub, Nat.reduceMul, Int.reduceBEq, Int.reduceBNe, Int.reduceLT, Int.reduceLE, Int.reduceEq, reduceIte, reduceCtorEq, da, int, boolA, h2, h3, h5]
theorem nodeR_len (n : NodeM) (e : Int) : (nodeR n e).length = 3 := by unfold nodeR; split <;> rfl
theorem nodeR_one (n : NodeM) (e : Int) : oneAll (nodeR n e) = true := by unfold nodeR; split <;> rfl
theorem nodeR_take (n : NodeM) (e : Int) : (nodeR n e).take 3 = nodeR n e := by unfold nodeR; split <;> rfl
theorem nodeW_ok {l : List NamedM} (hl : okL l) (p : PlaceM) (w : WM) : okN (nodeW l p w).1 := by
  have h0 : okN noNode := ⟨⟨by decide, fun _ h => by cases h⟩, ⟨by decide, fun _ h => by cases h⟩⟩
  unfold nodeW
  split
  · exact h0
  · split
    · exact h0
    · split
      · exact h0
      · exact ok_node hl _
theorem nodeW_deep {l : List NamedM} {p : PlaceM} {w : WM} (h : 12 < p.deep) : (nodeW l p w).2.1 = 130 ∧ (nodeW l p w).2.2 = w := by
  unfold nodeW
  rw [if_pos h]
  exact ⟨rfl, rfl⟩
theorem s54 {l : List NamedM} (hl : okL l) (ht : tinyL l) (hlen : l.length ≤ 1000) {wid mid i6 i7 : Nat} (hne : i6 ≠ wid ∧ i7 ≠ wid) : ∀ (d : Nat) (p : PlaceM) (a b : AV) (w : WM) (H : Heap), NB a p.lk → NB b p.hk → okP_ p → p.deep + d = 13 → 1 ≤ p.deep → okW l w → WS H l wid mid w →
    H.get i6 = some (.box false [.ptr wid 0 0]) → H.get i7 = some (.box false [visitF i6 i7]) →
    ∃ H', callL ft (visitF i6 i7) [.agg (placeC p a b)] H = some (int (visitM l d p w).1, H') ∧ WS H' l wid mid (visitM l d p w).2 ∧ Keep wid H H' := by
  intro d
  induction d with
  | zero =>
    intro p a b w H ha hb hp hd h1 ho hw g6 g7
    refine call_oE rfl (by simp) ?_
    have cl : (placeC p a b).length = 6 := rfl
    have c6 : (placeC p a b).take 6 = placeC p a b := rfl
    have ca : oneAll (placeC p a b) = true := by
      show (true && (true && (true && (a.one && (true && (b.one && true)))))) = true
      rw [ha.one, hb.one]; rfl
    have o6 := get_old g6
    have hle := ho.le
    have hlen' := ho.len
    obtain ⟨q1, q2⟩ := nodeW_deep (l := l) (w := w) (show 12 < p.deep by omega)
    have hS := s55 hl ht ha hb hp (hw.hx [.box false (placeC p a b)]) (by omega) (by omega)
    have hR : nodeR (nodeW l p w).1 130 = [boolA false, .sc (.slice none 0 0), .sc (.slice none 0 0)] := by unfold nodeR; rw [if_neg (by decide)]
    rw [q1, q2, hR] at hS
    unfold c54 r54
    simp only [↓vp, vq0, vq1, vq2, vq3, vr0, vr1, vr2, vr3, vr4, vr5, vr6, vr7, vr8, vr9, vr10, vr11, vr12, vr13, vr14, vr15, vr16, vr17, vr18, vr19, vr20, vr21, vr22, vr23, vr24, vr25, vr26, vr27, vr28, vr29, vr30, vr31, vr32, vr33, vr34, opS, fpS, okP, pack, nAl, allocA, shId, leaves, fillA, fillR, splice, Nat.reduceLT, Nat.reduceEqDiff, Nat.reduceLeDiff, Nat.reduceAdd, Nat.reduceSub, Nat.reduceMul, Int.reduceBEq, Int.reduceBNe, Int.reduceLT, Int.reduceLE, Int.reduceEq, reduceIte, reduceCtorEq, da, int, boolA, cl, c6, ca, o6]
    refine KW_ex hS (fun H1 hP => ?_)
    obtain ⟨hW1, hK1⟩ := hP
    rw [← hx_nil H1]
    simp only [↓vp, vq0, vq1, vq2, vq3, vr0, vr1, vr2, vr3, vr4, vr5, vr6, vr7, vr8, vr9, vr10, vr11, vr12, vr13, vr14, vr15, vr16, vr17, vr18, vr19, vr20, vr21, vr22, vr23, vr24, vr25, vr26, vr27, vr28, vr29, vr30, vr31, vr32, vr33, vr34, opS, fpS, okP, pack, nAl, allocA, shId, leaves, fillA, fillR, splice, Nat.reduceLT, Nat.reduceEqDiff, Nat.reduceLeDiff, Nat.reduceAdd, Nat.reduceSub, Nat.reduceMul, Int.reduceBEq, Int.reduceBNe, Int.reduceLT, Int.reduceLE, Int.reduceEq, reduceIte, reduceCtorEq, da, int, boolA]
    rw [AW_loop]
    unfold c54L0 c54R1
    simp only [↓vp, vq0, vq1, vq2, vq3, vr0, vr1, vr2, vr3, vr4, vr5, vr6, vr7, vr8, vr9, vr10, vr11, vr12, vr13, vr14, vr15, vr16, vr17, vr18, vr19, vr20, vr21, vr22, vr23, vr24, vr25, vr26, vr27, vr28, vr29, vr30, vr31, vr32, vr33, vr34, opS, fpS, okP, pack, nAl, allocA, shId, leaves, fillA, fillR, splice, Nat.reduceLT, Nat.reduceEqDiff, Nat.reduceLeDiff, Nat.reduceAdd, Nat.reduceSub, Nat.reduceMul, Int.reduceBEq, Int.reduceBNe, Int.reduceLT, Int.reduceLE, Int.reduceEq, reduceIte, reduceCtorEq, da, int, boolA, RetE_go, resT, resC, resN, retV1]
    exact ⟨rfl, hW1.hx _, (Keep.hx _).trans (hK1.trans (Keep.hx _))⟩
  | succ d ih =>
    intro p a b w H ha hb hp hd h1 ho hw g6 g7
    refine call_oE rfl (by simp) ?_
    have cl : (placeC p a b).length = 6 := rfl
    have c6 : (placeC p a b).take 6 = placeC p a b := rfl
    have ca : oneAll (placeC p a b) = true := by
      show (true && (true && (true && (a.one && (true && (b.one && true)))))) = true
      rw [ha.one, hb.one]; rfl
    have o6 := get_old g6
    have hle := ho.le
    have hlen' := ho.len
    have hS := s55 hl ht ha hb hp (hw.hx [.box false (placeC p a b)]) (by omega) (by omega)
    have hn := nodeW_ok hl p w
    have ho1 := okW_node ht (p := p) ho
    have hV : visitM l (d + 1) p w = if (nodeW l p w).2.1 ≠ 0 then ((nodeW l p w).2.1, (nodeW l p w).2.2) else goM (visitM l d) p (nodeW l p w).1 (List.range (nodeW l p w).1.kids.length) (nodeW l p w).2.2 := rfl
    rw [hV]
    clear hV
    generalize nodeW l p w = N at *
    obtain ⟨n, e, w1⟩ := N
    simp only at hS hn ho1 ⊢
    have r1 := nodeR_len n e
    have r2 := nodeR_one n e
    have r3 := nodeR_take n e
    have lw := Heap.get_lt g6
    obtain ⟨sI, sR, gw, _⟩ := hw.ex
    have lwid := Heap.get_lt gw
    unfold c54 r54
    simp only [↓vp, vq0, vq1, vq2, vq3, vr0, vr1, vr2, vr3, vr4, vr5, vr6, vr7, vr8, vr9, vr10, vr11, vr12, vr13, vr14, vr15, vr16, vr17, vr18, vr19, vr20, vr21, vr22, vr23, vr24, vr25, vr26, vr27, vr28, vr29, vr30, vr31, vr32, vr33, vr34, opS, fpS, okP, pack, nAl, allocA, shId, leaves, fillA, fillR, splice, Nat.reduceLT, Nat.reduceEqDiff, Nat.reduceLeDiff, Nat.reduceAdd, Nat.reduceSub, Nat.reduceMul, Int.reduceBEq, Int.reduceBNe, Int.reduceLT, Int.reduceLE, Int.reduceEq, reduceIte, reduceCtorEq, da, int, boolA, cl, c6, ca, o6]
    refine KW_ex hS (fun H1 hP => ?_)
    obtain ⟨hW1, hK1⟩ := hP
    have k6 := hK1.2 i6 _ _ hne.1 (get_old g6 _)
    have k7 := hK1.2 i7 _ _ hne.2 (get_old g7 _)
    have k3 := hK1.2 H.next false (placeC p a b) (by omega) (hx_get0 _ _)
    have n1 : H.next < H1.next := Heap.get_lt k3
    rw [← hx_nil H1]
    by_cases he : e = 0
    · subst he
      rw [if_neg (by simp)]
      have hR : nodeR n 0 = nodeC n := rfl
      rw [hR] at r1 r2 r3 ⊢
      simp only [↓vp, vq0, vq1, vq2, vq3, vr0, vr1, vr2, vr3, vr4, vr5, vr6, vr7, vr8, vr9, vr10, vr11, vr12, vr13, vr14, vr15, vr16, vr17, vr18, vr19, vr20, vr21, vr22, vr23, vr24, vr25, vr26, vr27, vr28, vr29, vr30, vr31, vr32, vr33, vr34, opS, fpS, okP, pack, nAl, allocA, shId, leaves, fillA, fillR, splice, Nat.reduceLT, Nat.reduceEqDiff, Nat.reduceLeDiff, Nat.reduceAdd, Nat.reduceSub, Nat.reduceMul, Int.reduceBEq, Int.reduceBNe, Int.reduceLT, Int.reduceLE, Int.reduceEq, reduceIte, reduceCtorEq, da, int, boolA, r1, r2, r3]
      rw [← hx_nil (hx _ _)]
      refine l54 (v := visitM l d) (wid := wid) (mid := mid) (i6 := i6) (i7 := i7) (i3 := H.next) (i5 := H1.next) (p := p) ha hb hp hn ⟨h1, by omega⟩ ⟨hne.1, hne.2, by omega, fun e => ?_⟩ (okW_visit ht d)
        (fun k w H ho hw g6 g7 => ih (kidM p n k) _ _ w H (nb_B _) (nb_B _) (okP_kid hp hn k) (by show p.deep + 1 + d = 13; omega) (by show 1 ≤ p.deep + 1; omega) ho hw g6 g7)
        (goM (visitM l d) p n (List.range n.kids.length) w1) H (fun f' K q6 hWK hKK => ?_) n.kids.length 0 w1 0 (hx H1 [.box false (nodeC n)]) _ (by simp) ?_ ho1 (hW1.hx _) ((Keep.hx _).trans (hK1.trans (Keep.hx _))) (get_old k6 _) (get_old k7 _) (get_old k3 _) (hx_get0 _ _) ?_ ?_ ?_ ?_ ?_
      · obtain ⟨_, _, gw', _⟩ := hW1.ex
        have := Heap.get_lt gw'
        omega
      · unfold c54R1
        simp only [↓vp, vq0, vq1, vq2, vq3, vr0, vr1, vr2, vr3, vr4, vr5, vr6, vr7, vr8, vr9, vr10, vr11, vr12, vr13, vr14, vr15, vr16, vr17, vr18, vr19, vr20, vr21, vr22, vr23, vr24, vr25, vr26, vr27, vr28, vr29, vr30, vr31, vr32, vr33, vr34, opS, fpS, okP, pack, nAl, allocA, shId, leaves, fillA, fillR, splice, Nat.reduceLT, Nat.reduceEqDiff, Nat.reduceLeDiff, Nat.reduceAdd, Nat.reduceSub, Nat.reduceMul, Int.reduceBEq, Int.reduceBNe, Int.reduceLT, Int.reduceLE, Int.reduceEq, reduceIte, reduceCtorEq, da, int, boolA, RetE_go, resT, resC, resN, retV1, q6]
        exact ⟨hWK.hx _, hKK.trans (Keep.hx _)⟩
      · rw [if_pos rfl, List.range_eq_range']
      all_goals first | rfl | (simp only [↓vp, vq0, vq1, vq2, vq3, vr0, vr1, vr2, vr3, vr4, vr5, vr6, vr7, vr8, vr9, vr10, vr11, vr12, vr13, vr14, vr15, vr16, vr17, vr18, vr19, vr20, vr21, vr22, vr23, vr24, vr25, vr26, vr27, vr28, vr29, vr30, vr31, vr32, vr33, vr34, opS, fpS, okP, pack, nAl, allocA, shId, leaves, fillA, fillR, splice, Nat.reduceLT, Nat.reduceEqDiff, Nat.reduceLeDiff, Nat.reduceAdd, Nat.reduceSub, Nat.reduceMul, Int.reduceBEq, Int.reduceBNe, Int.reduceLT, Int.reduceLE, Int.reduceEq, reduceIte, reduceCtorEq, da, int, boolA]; done)
    · rw [if_pos he]
      have hR : nodeR n e = [boolA false, .sc (.slice none 0 0), .sc (.slice none 0 0)] := by unfold nodeR; rw [if_neg he]
      rw [hR] at r1 r2 r3 ⊢
      simp only [↓vp, vq0, vq1, vq2, vq3, vr0, vr1, vr2, vr3, vr4, vr5, vr6, vr7, vr8, vr9, vr10, vr11, vr12, vr13, vr14, vr15, vr16, vr17, vr18, vr19, vr20, vr21, vr22, vr23, vr24, vr25, vr26, vr27, vr28, vr29, vr30, vr31, vr32, vr33, vr34, opS, fpS, okP, pack, nAl, allocA, shId, leaves, fillA, fillR, splice, Nat.reduceLT, Nat.reduceEqDiff, Nat.reduceLeDiff, Nat.reduceAdd, Nat.reduceSub, Nat.reduceMul, Int.reduceBEq, Int.reduceBNe, Int.reduceLT, Int.reduceLE, Int.reduceEq, reduceIte, reduceCtorEq, da, int, boolA, r1, r2, r3]
      rw [AW_loop]
      unfold c54L0 c54R1
      simp only [↓vp, vq0, vq1, vq2, vq3, vr0, vr1, vr2, vr3, vr4, vr5, vr6, vr7, vr8, vr9, vr10, vr11, vr12, vr13, vr14, vr15, vr16, vr17, vr18, vr19, vr20, vr21, vr22, vr23, vr24, vr25, vr26, vr27, vr28, vr29, vr30, vr31, vr32, vr33, vr34, opS, fpS, okP, pack, nAl, allocA, shId, leaves, fillA, fillR, splice, Nat.reduceLT, Nat.reduceEqDiff, Nat.reduceLeDiff, Nat.reduceAdd, Nat.reduceSub, Nat.reduceMul, Int.reduceBEq, Int.reduceBNe, Int.reduceLT, Int.reduceLE, Int.reduceEq, reduceIte, reduceCtorEq, da, int, boolA, RetE_go, resT, resC, resN, retV1]
      exact ⟨hW1.hx _, (Keep.hx _).trans (hK1.trans (Keep.hx _))⟩
/-- All of a tree: what is met, and why not. -/
def w0 : WM := ⟨[], [], 0⟩
def root0 (root : Int) : PlaceM := ⟨root, 1, false, [], false, []⟩
def allM (l : List NamedM) (root : Int) : WM × Int :=
  if (visitM l 12 (root0 root) w0).1 ≠ 0 then (w0, (visitM l 12 (root0 root) w0).1) else ((visitM l 12 (root0 root) w0).2, 0)
def wholeC (w : WM) : List AV := [encI w.items, encN w.refs, int w.depth]
theorem frz_rep_keep {K : Heap} {sz : Nat} {S : AV} {rows : List (List AV)} (h : Rep K sz S rows) (n : Nat) : ∃ K', frz (n + 1) K S = some (.lst rows, K') ∧ ∀ sz' T rows', sz' ≠ sz → Rep K sz' T rows' → Rep K' sz' T rows' := by
  rcases h with ⟨rfl, rfl⟩ | ⟨id, rfl, h⟩
  · exact ⟨K, rfl, fun _ _ _ _ h => h⟩
  · refine ⟨K.set id (.row true sz rows), ?_, fun sz' T rows' hs hr => hr.mono fun j hj => ?_⟩
    · rw [frz_sl, h]
      simp
    · rw [Heap.get_set_ne _ (fun e => by rw [e, h] at hj; cases hj; exact hs rfl), hj]
theorem s21 (l : List NamedM) (hl : okL l) (ht : tinyL l) (hlen : l.length ≤ 1000) (root : Int) (H : Heap) : callL ft (.fn (.func 21) [] []) [srcF l, int root] H = some (.tup [.agg (wholeC (allM l root).1), int (allM l root).2], H) := by
  refine call_p (as' := [srcF l, int root]) rfl rfl (by simp) ?_
  have hn : isnilA 3 (srcF l) = some false := rfl
  have z1 : (srcF l).cells = [srcF l] := rfl
  have z2 : (srcF l).one = true := rfl
  unfold c21 r21
  simp only [↓vp, vq0, vq1, vq2, vq3, vr0, vr1, vr2, vr3, vr4, vr5, vr6, vr7, vr8, vr9, vr10, vr11, vr12, vr13, vr14, vr15, vr16, vr17, vr18, vr19, vr20, vr21, vr22, vr23, vr24, vr25, vr26, vr27, vr28, vr29, vr30, vr31, vr32, vr33, vr34, opS, fpS, okP, pack, nAl, allocA, shId, leaves, fillA, fillR, splice, Nat.reduceLT, Nat.reduceEqDiff, Nat.reduceLeDiff, Nat.reduceAdd, Nat.reduceSub, Nat.reduceMul, Int.reduceBEq, Int.reduceBNe, Int.reduceLT, Int.reduceLE, Int.reduceEq, reduceIte, reduceCtorEq, da, int, boolA, hn, z1, z2]
  refine KW_ex (s54 hl ht hlen (wid := 2) (mid := 1) (i6 := 3) (i7 := 4) ⟨by decide, by decide⟩ 12 (root0 root) _ _ w0 _ (.inr ⟨rfl, rfl⟩) (.inr ⟨rfl, rfl⟩) ⟨ok_nil, ok_nil⟩ rfl (Int.le_refl _) ⟨List.nodup_nil, (by intro r hr; cases hr), (by decide)⟩
    ⟨_, _, rfl, .inl ⟨rfl, rfl⟩, .inl ⟨rfl, rfl⟩, rfl⟩ rfl rfl) (fun H1 hP => ?_)
  obtain ⟨hW, hK⟩ := hP
  have k0 := hK.2 0 _ _ (by decide) rfl
  have k3 := hK.2 3 _ _ (by decide) rfl
  obtain ⟨sI, sR, g2, rI, rR, _⟩ := hW.ex
  have o0 := get_old k0
  have o2 := get_old g2
  have o3 := get_old k3
  have l0 := Heap.get_lt k0
  have p0 := fun L b => hx_set_old H1 L b 0 l0
  have cI : sI.one = true := by rcases rI with ⟨rfl, _⟩ | ⟨_, rfl, _⟩ <;> rfl
  have cR : sR.one = true := by rcases rR with ⟨rfl, _⟩ | ⟨_, rfl, _⟩ <;> rfl
  rw [← hx_nil H1]
  cases e1 : ((visitM l 12 (root0 root) w0).1 != 0) with
  | true =>
    have e1' : (visitM l 12 (root0 root) w0).1 ≠ 0 := by simpa using e1
    have hA : allM l root = (w0, (visitM l 12 (root0 root) w0).1) := by unfold allM; rw [if_pos e1']
    rw [hA]
    have oS : ∀ (b : Blk) (L : List Blk), (hx (H1.set 0 b) L).get 0 = some b := fun b L => get_old (Heap.get_set_self b l0) L
    simp only [↓vp, vq0, vq1, vq2, vq3, vr0, vr1, vr2, vr3, vr4, vr5, vr6, vr7, vr8, vr9, vr10, vr11, vr12, vr13, vr14, vr15, vr16, vr17, vr18, vr19, vr20, vr21, vr22, vr23, vr24, vr25, vr26, vr27, vr28, vr29, vr30, vr31, vr32, vr33, vr34, opS, fpS, okP, pack, nAl, allocA, shId, leaves, fillA, fillR, splice, Nat.reduceLT, Nat.reduceEqDiff, Nat.reduceLeDiff, Nat.reduceAdd, Nat.reduceSub, Nat.reduceMul, Int.reduceBEq, Int.reduceBNe, Int.reduceLT, Int.reduceLE, Int.reduceEq, reduceIte, reduceCtorEq, da, int, boolA, RetP_go, resT, resC, resN, retV1, retV2, retV3, retV0, frzFZ, takeM, Option.some.injEq, e1, o0, p0, oS]
    rfl
  | false =>
    have e1' : ¬ (visitM l 12 (root0 root) w0).1 ≠ 0 := by simpa using e1
    have hA : allM l root = ((visitM l 12 (root0 root) w0).2, 0) := by unfold allM; rw [if_neg e1']
    rw [hA]
    have oS : ∀ (b : Blk) (L : List Blk), (hx (H1.set 0 b) L).get 0 = some b := fun b L => get_old (Heap.get_set_self b l0) L
    have mono : ∀ (b : Blk) {sz : Nat} {S : AV} {rows : List (List AV)}, Rep H1 sz S rows → Rep (hx (H1.set 0 b) []) sz S rows := fun b {sz S rows} h => h.mono fun id hid => by
      rw [hx_nil, Heap.get_set_ne _ (fun e => by rw [e, k0] at hid; cases hid), hid]
    simp only [int] at o2
    simp only [↓vp, vq0, vq1, vq2, vq3, vr0, vr1, vr2, vr3, vr4, vr5, vr6, vr7, vr8, vr9, vr10, vr11, vr12, vr13, vr14, vr15, vr16, vr17, vr18, vr19, vr20, vr21, vr22, vr23, vr24, vr25, vr26, vr27, vr28, vr29, vr30, vr31, vr32, vr33, vr34, opS, fpS, okP, pack, nAl, allocA, shId, leaves, fillA, fillR, splice, Nat.reduceLT, Nat.reduceEqDiff, Nat.reduceLeDiff, Nat.reduceAdd, Nat.reduceSub, Nat.reduceMul, Int.reduceBEq, Int.reduceBNe, Int.reduceLT, Int.reduceLE, Int.reduceEq, reduceIte, reduceCtorEq, da, int, boolA, RetP_go, resT, resC, resN, retV1, retV2, retV3, retV0, frzFZ, takeM, Option.some.injEq, e1, o0, o2, o3, p0, oS, cI, cR]
    obtain ⟨K1, h1, h2⟩ := frz_rep_keep (mono (.box false [sI, sR, .sc (.int .i64 (visitM l 12 (root0 root) w0).2.depth)]) rI) 19
    obtain ⟨K2, h3, _⟩ := frz_rep_keep (h2 _ _ _ (by decide) (mono _ rR)) 18
    simp only [Nat.reduceAdd] at h1 h3
    simp only [h1, h3, Option.bind_some, Option.map_some]
    rfl
theorem k21 {l : List NamedM} (hl : okL l) (ht : tinyL l) (hlen : l.length ≤ 1000) {root : Int} {K : Heap} {L : List Blk} {Q : AV → Heap → Prop} :
    KW ft (.fn (.func 21) [] []) [srcF l, int root] (hx K L) Q ↔ Q (.tup [.agg (wholeC (allM l root).1), int (allM l root).2]) (hx K L) := KW_of (s21 l hl ht hlen root _)
end Go.VI

set_option linter.unusedVariables false
set_option linter.unusedSimpArgs false
set_option maxRecDepth 100000
namespace Go.VI
attribute [local congr] AW_congr OW_congr DW_congr NW_congr VW_congr GW_congr PW_congr KW_congr ite_congr' GV_congr CV_congr
theorem ias (H : Heap) (sz id off len : Nat) (i : Int) : iaddrA H none sz (.sl id off len) i = if 0 ≤ i ∧ i < len ∧ rowSz H id = some sz then some (.ptr id (off + i.toNat) 0) else none := rfl
theorem rsz (H : Heap) (id : Nat) : rowSz H id = match H.get id with
    | some (.row _ sz _) => some sz
    | _ => none := rfl
theorem clIt (x : ItemM) : closedL (itemC x) = true := rfl
theorem opI1 (e : Env) (x : Operand) : optI e (some x) = (toI (ev e x)).map some := rfl
theorem opI0 (e : Env) : optI e none = some none := rfl
theorem slA (H : Heap) (sz id off len : Nat) (lo hi mx : Option Int) : sliceA H sz (.sl id off len) lo hi mx = if rowSz H id = some sz then (boundsA len lo hi mx).map fun (l, h) => if 0 < l ∧ l = h then .lst [] else .sl id (off + l) (h - l) else none := rfl
def aItem : ItemM := ⟨[97], [], 0, 0⟩
def bItem : ItemM := ⟨[98], [], 0, 0⟩
/-- A branch of two leaves. -/
def two : List NamedM := [⟨2, ⟨true, [aItem], []⟩⟩, ⟨3, ⟨true, [bItem], []⟩⟩, ⟨4, ⟨false, [], [⟨[], 2⟩, ⟨[98], 3⟩]⟩⟩]
end Go.VI

set_option linter.unusedVariables false
set_option linter.unusedSimpArgs false
set_option maxRecDepth 100000
namespace Go.VI
attribute [local congr] AW_congr OW_congr DW_congr NW_congr VW_congr GW_congr PW_congr KW_congr ite_congr' GV_congr CV_congr
/-- A call that freezes what it gets. -/
theorem callL_fz {ft : FT} {k : FuncId} {n : Nat} {rs : List ARes} {body : ACode} {asx bs : List AV} {H H1 : Heap} (hk : ft k = some (.go true n rs body)) (h : frzCells H asx = some (bs, H1)) (h' : frzCells H1 bs = some (bs, H1)) :
    callL ft (.fn (.func k) [] []) asx H = callL ft (.fn (.func k) [] []) bs H1 := by
  rw [callL_fn, callL_fn]
  simp only [List.nil_append, List.append_nil]
  unfold callF
  simp only [hk, h, h']
theorem KW_eq {ft : FT} {f : AV} {asx bs : List AV} {H H1 : Heap} {Q : AV → Heap → Prop} (h : callL ft f asx H = callL ft f bs H1) : KW ft f asx H Q ↔ KW ft f bs H1 Q := by
  unfold KW
  rw [h]
theorem fz_sl1 {H : Heap} {id len sz : Nat} {rows : List (List AV)} (h : H.get id = some (.row false sz rows)) (hl : rows.length = len) (n : Nat) : frz (n + 1) H (.sl id 0 len) = some (.lst rows, H.set id (.row true sz rows)) := by
  subst hl
  rw [frz_sl, h]
  simp
theorem fz_src (H : Heap) (l : List NamedM) (n : Nat) : frz (n + 4) H (srcF l) = some (srcF l, H) := rfl
end Go.VI

set_option linter.unusedVariables false
set_option linter.unusedSimpArgs false
namespace Go.VI
/-- All cells of the first world. -/
def frzW (W : World) : Fz := fun b o => W.cell? ⟨b, o, none⟩
def CVF (F : Fz) (xs : List AV) (cs : List Value) : Prop := xs.length = cs.length ∧ ∀ i c, xs[i]? = some c → c.one = true ∧ VF F c (cs.getD i undef)
def RD (P : Program) (W : World) (t : TypeId) (E : List AV → Prop) : Prop :=
  ∀ (H : Type) (enc : TypeId × Value → H) (base : Nat) (spare : Nat → Bool) (held : Bool) (fuel : Nat) (cs : List Value) (x : DataW H × List MemPlace),
    DataW.trod enc P W base spare held fuel t cs = some x → (∀ n ∈ x.1.weights P t, n ≤ reachBytes) → ∃ xs, E xs ∧ CVF (frzW W) xs cs
theorem CVF.one {F : Fz} {a : AV} {v : Value} (h1 : a.one = true) (h : VF F a v) : CVF F [a] [v] := ⟨rfl, fun i c hc => by
  cases i with
  | zero => cases hc; exact ⟨h1, h⟩
  | succ i => simp at hc⟩
theorem CVF.cons {F : Fz} {a : AV} {v : Value} {l : List AV} {vs : List Value} (h : CVF F [a] [v]) (ht : CVF F l vs) : CVF F (a :: l) (v :: vs) := ⟨by simp [ht.1], fun i c hc => by
  cases i with
  | zero => exact h.2 0 c hc
  | succ i => exact ht.2 i c hc⟩
theorem rd_bool {P : Program} {W : World} {t : TypeId} (ht : P.underlying t = some .bool) : RD P W t fun xs => ∃ b, xs = [.sc (.bool b)] := fun H enc base spare held fuel cs x h _ => by
  obtain ⟨b, rfl, _⟩ := DataW.trod_bool ht h
  exact ⟨_, ⟨b, rfl⟩, .one rfl (.sc rfl)⟩
theorem rd_int {P : Program} {W : World} {t : TypeId} {k : IntKind} (ht : P.underlying t = some (.int k)) : RD P W t fun xs => ∃ n, xs = [.sc (.int k n)] ∧ (Lit.int k n).wf = true := fun H enc base spare held fuel cs x h _ => by
  obtain ⟨n, rfl, _, hw⟩ := DataW.trod_int ht h
  exact ⟨_, ⟨n, rfl, hw⟩, .one rfl (.sc rfl)⟩
theorem cell_flat {W : World} {a : Addr} {v : Value} (h : W.cell? a = some v) : a.spot = none := by
  cases hs : a.spot with
  | none => rfl
  | some s =>
    simp only [World.cell?] at h
    split at h
    · simp [hs] at h
    · cases h
theorem add_flat (b o i : Nat) : (Addr.mk b o none).add i = ⟨b, o + i, none⟩ := by
  unfold Addr.add
  split
  · rename_i h; subst h; rfl
  · rfl
theorem weights_all {H : Type} {P : Program} {e : TypeId} : ∀ {l : List (DataW H)} {d : DataW H}, d ∈ l → ∀ n ∈ d.weights P e, n ∈ DataW.weightsAll P e l
  | x :: l, d, hd, n, hn => by
    simp only [DataW.weightsAll, List.mem_append]
    rcases List.mem_cons.1 hd with rfl | hd
    · exact .inl hn
    · exact .inr (weights_all hd n hn)
theorem rd_slice {P : Program} {W : World} {t e : TypeId} {E : List AV → Prop} {sz B : Nat} (ht : P.underlying t = some (.slice e)) (hc : P.cellsOf e = sz) (h0 : 0 < sz) (hB : P.bytesOf e = B) (he : RD P W e E) :
    RD P W t fun xs => ∃ rows, xs = [.lst rows] ∧ (∀ r ∈ rows, E r ∧ r.length = sz) ∧ rows.length * B ≤ reachBytes := fun H enc base spare held fuel cs x h hw => by
  rcases DataW.trod_slice ht h with ⟨rfl, rfl⟩ | ⟨a, len, cap, elems, rest, n, rfl, rfl, rfl, hb, hl, hm, hlen, hel, _, _⟩
  · exact ⟨_, ⟨[], rfl, by simp, by simp⟩, .one rfl (.lst (sz := 0) (b := 0) (o := 0) (fun _ _ => undef) (Nat.le_refl _) (fun h => absurd rfl h) (by simp) (by simp) (by simp) (by simp))⟩
  · rw [hc] at hel
    have hw1 : (len + rest.length) * B ≤ reachBytes := by
      have := hw ((elems.length + rest.length) * P.bytesOf e) (by simp [DataW.weights, ht])
      rwa [hB, hlen] at this
    have each : ∀ i : Nat, ∃ r : List AV, i < len → ∃ cs, W.cells? base (a.add (i * sz)) sz = some cs ∧ E r ∧ CVF (frzW W) r cs := fun i => by
      by_cases hi : i < len
      · have hy := hel i hi
        have hi' : i < elems.length := by omega
        rw [List.getElem?_eq_getElem hi', Option.bind_eq_some_iff] at hy
        obtain ⟨cs, hcs, hy⟩ := hy
        obtain ⟨r, hr, hv⟩ := he H enc base spare held n cs _ hy fun k hk => hw k (by
          simp only [DataW.weights, ht, List.mem_cons, List.mem_append]
          exact .inr (.inl (weights_all (List.mem_map.2 ⟨elems[i], List.getElem_mem hi', rfl⟩) k hk)))
        exact ⟨r, fun _ => ⟨cs, hcs, hr, hv⟩⟩
      · exact ⟨[], fun h => absurd h hi⟩
    obtain ⟨f, hf⟩ := Classical.skolem.1 each
    have hrows : ∀ i r, ((List.range len).map f)[i]? = some r → i < len ∧ r = f i := fun i r hr => by
      rw [List.getElem?_map, Option.map_eq_some_iff] at hr
      obtain ⟨j, hj, rfl⟩ := hr
      obtain ⟨h1, h2⟩ := List.getElem?_eq_some_iff.1 hj
      rw [List.getElem_range] at h2
      rw [List.length_range] at h1
      exact ⟨h1, by rw [h2]⟩
    have hlr : ∀ i, i < len → (f i).length = sz := fun i hi => by
      obtain ⟨cs, h1, _, h2⟩ := hf i hi
      rw [h2.1, (World.cells?_some h1).2.1]
    have cell : ∀ i j, i < len → j < sz → ∃ cs, W.cells? base (a.add (i * sz)) sz = some cs ∧ W.cell? ((a.add (i * sz)).add j) = cs[j]? ∧ ∃ v, cs[j]? = some v := fun i j hi hj => by
      obtain ⟨cs, h1, _, _⟩ := hf i hi
      obtain ⟨_, h2, h3⟩ := World.cells?_some h1
      exact ⟨cs, h1, h3 j hj, _, List.getElem?_eq_getElem (by omega)⟩
    have hflat : 0 < len → a = ⟨a.block, a.off, none⟩ := fun h => by
      obtain ⟨cs, _, h1, v, h2⟩ := cell 0 0 h h0
      rw [h2] at h1
      have h3 : (a.add (0 * sz)).add 0 = a := by rw [Nat.zero_mul]; simp [Addr.add]
      rw [h3] at h1
      have := cell_flat h1
      cases a
      simp only at this
      subst this
      rfl
    have hF : ∀ i j c, i < len → (f i)[j]? = some c → c.one = true ∧ ∃ v, frzW W a.block (a.off + i * sz + j) = some v ∧ VF (frzW W) c v := fun i j c hi hc => by
      have hj : j < sz := by rw [← hlr i hi]; exact (List.getElem?_eq_some_iff.1 hc).1
      obtain ⟨cs, h1, h2, v, h3⟩ := cell i j hi hj
      obtain ⟨cs', h1', _, h4⟩ := hf i hi
      rw [h1] at h1'
      cases h1'
      obtain ⟨h5, h6⟩ := h4.2 j c hc
      refine ⟨h5, v, ?_, ?_⟩
      · rw [hflat (by omega), add_flat, add_flat, h3] at h2
        exact h2
      · have : cs.getD j undef = v := by rw [List.getD_eq_getElem?_getD, h3]; rfl
        rwa [this] at h6
    refine ⟨_, ⟨(List.range len).map f, rfl, fun r hr => ?_, ?_⟩, .one rfl ?_⟩
    · obtain ⟨i, hi, rfl⟩ := List.mem_map.1 hr
      have hi := List.mem_range.1 hi
      obtain ⟨_, _, h1, _⟩ := hf i hi
      exact ⟨h1, hlr i hi⟩
    · simp only [List.length_map, List.length_range]
      exact Nat.le_trans (Nat.mul_le_mul_right _ (by omega)) hw1
    · have hll : ((List.range len).map f).length = len := by simp
      have := VF.lst (F := frzW W) (rows := (List.range len).map f) (A := some a) (cap := cap) (sz := sz) (b := a.block) (o := a.off) (fun i j => (frzW W a.block (a.off + i * sz + j)).getD undef)
        (by simpa using hl) (fun h => by rw [← hflat (by
          cases len with
          | zero => simp at h
          | succ => omega)]) (fun i r hr => by obtain ⟨h1, rfl⟩ := hrows i r hr; exact hlr i h1)
        (fun i r j c hr hc => by obtain ⟨h1, rfl⟩ := hrows i r hr; exact (hF i j c h1 hc).1)
        (fun i r j c hr hc => by
          obtain ⟨h1, rfl⟩ := hrows i r hr
          obtain ⟨_, v, h2, _⟩ := hF i j c h1 hc
          rw [h2]; rfl)
        (fun i r j c hr hc => by
          obtain ⟨h1, rfl⟩ := hrows i r hr
          obtain ⟨_, v, h2, h3⟩ := hF i j c h1 hc
          rw [h2]; exact h3)
      rwa [hll] at this
/-- Parts, one behind the other. -/
def SE : List (List AV → Prop) → List AV → Prop
  | [], xs => xs = []
  | E :: Es, xs => ∃ a b, xs = a ++ b ∧ E a ∧ SE Es b
def consec (P : Program) : List Field → Nat → Nat → Bool
  | [], off, en => off == en
  | f :: fs, off, en => f.offset == off && consec P fs (off + P.cellsOf f.type) en
theorem consec_le {P : Program} : ∀ {fs : List Field} {off en : Nat}, consec P fs off en = true → off ≤ en
  | [], off, en, h => by simp [consec] at h; omega
  | f :: fs, off, en, h => by
    simp only [consec, Bool.and_eq_true] at h
    have := consec_le h.2
    omega
def RDs (P : Program) (W : World) : List Field → List (List AV → Prop) → Prop
  | [], [] => True
  | f :: fs, E :: Es => RD P W f.type E ∧ RDs P W fs Es
  | _, _ => False
theorem rd_fields {P : Program} {W : World} {H : Type} {enc : TypeId × Value → H} {base : Nat} {spare : Nat → Bool} {held : Bool} {n : Nat} {cs : List Value} : ∀ (fs : List Field) (Es : List (List AV → Prop)) (off : Nat) (xs : List (DataW H × List MemPlace)),
    RDs P W fs Es → consec P fs off cs.length = true → xs.length = fs.length → (∀ (i : Nat) (f : Field), fs[i]? = some f → DataW.trod enc P W base spare held n f.type ((cs.drop f.offset).take (P.cellsOf f.type)) = xs[i]?) →
    (∀ k ∈ DataW.weightsEach P (fs.map (·.type)) (xs.map (·.1)), k ≤ reachBytes) → ∃ xs, SE Es xs ∧ CVF (frzW W) xs (cs.drop off)
  | [], [], off, xs, _, hc, _, _, _ => by
    simp only [consec, beq_iff_eq] at hc
    refine ⟨[], rfl, by simp [hc], fun i c h => by simp at h⟩
  | [], _ :: _, _, _, h, _, _, _, _ => h.elim
  | _ :: _, [], _, _, h, _, _, _, _ => h.elim
  | f :: fs, E :: Es, off, [], _, _, hl, _, _ => by simp at hl
  | f :: fs, E :: Es, off, x :: xs, hr, hc, hl, ht, hw => by
    simp only [consec, Bool.and_eq_true, beq_iff_eq] at hc
    obtain ⟨ho, hc⟩ := hc
    have hle := consec_le hc
    simp only [List.map_cons, DataW.weightsEach, List.mem_append] at hw
    have h0 := ht 0 f rfl
    rw [ho] at h0
    obtain ⟨a, ha, hva⟩ := hr.1 H enc base spare held n _ x h0 fun k hk => hw k (.inl hk)
    obtain ⟨b, hb, hvb⟩ := rd_fields fs Es (off + P.cellsOf f.type) xs hr.2 hc (by simpa using hl) (fun i g hg => ht (i + 1) g hg) fun k hk => hw k (.inr hk)
    have hla : a.length = P.cellsOf f.type := by
      rw [hva.1]
      simp
      omega
    refine ⟨a ++ b, ⟨a, b, rfl, ha, hb⟩, ?_, fun i c h => ?_⟩
    · rw [List.length_append, hvb.1, hla]
      simp
      omega
    · by_cases hi : i < a.length
      · rw [List.getElem?_append_left hi] at h
        obtain ⟨h1, h2⟩ := hva.2 i c h
        refine ⟨h1, ?_⟩
        have : ((cs.drop off).take (P.cellsOf f.type)).getD i undef = (cs.drop off).getD i undef := by
          rw [List.getD_eq_getElem?_getD, List.getD_eq_getElem?_getD, List.getElem?_take_of_lt (by omega)]
        rwa [this] at h2
      · rw [List.getElem?_append_right (by omega)] at h
        obtain ⟨h1, h2⟩ := hvb.2 _ c h
        refine ⟨h1, ?_⟩
        have : (cs.drop (off + P.cellsOf f.type)).getD (i - a.length) undef = (cs.drop off).getD i undef := by
          rw [List.getD_eq_getElem?_getD, List.getD_eq_getElem?_getD, List.getElem?_drop, List.getElem?_drop]
          congr 2
          omega
        rwa [this] at h2
theorem rd_struct {P : Program} {W : World} {t : TypeId} {fs : Array Field} {Es : List (List AV → Prop)} (ht : P.underlying t = some (.struct fs)) (hc : consec P fs.toList 0 (P.cellsOf t) = true) (hr : RDs P W fs.toList Es) :
    RD P W t (SE Es) := fun H enc base spare held fuel cs x h hw => by
  obtain ⟨xs, n, rfl, rfl, hl, hx, hf⟩ := DataW.trod_struct ht h
  have := rd_fields (cs := cs) fs.toList Es 0 xs hr (by rw [hl]; exact hc) (by simpa using hx) (fun i f hi => hf i f (by simpa using hi)) (fun k hk => hw k (by simpa [DataW.weights, ht] using hk))
  simpa using this
end Go.VI

set_option linter.unusedVariables false
set_option linter.unusedSimpArgs false
namespace Go.VI
open Go.RowKit
def m0 : Mp := fun _ => none
theorem inv0 {P : Program} (W : World) : Inv P m0 (frzW W) Heap.empty W :=
  ⟨fun b o v h => h, fun id mb h => absurd h (by simp [m0]), fun id mb B h => absurd h (by simp [m0]), fun id id' mb mb' h => absurd h (by simp [m0])⟩
theorem below_of {F' : Fz} {m' : Mp} {W W' : World} (h : Ext m0 (frzW W) W m' F' W') : Below W.heap.size W W' :=
  ⟨h.os, h.tape, h.out, h.sz, fun k hk => h.blk k hk fun id mb hm => absurd hm (by simp [m0])⟩
theorem law_calls {P : Program} (hP : P.follows .mixedOrders = true) {ft : FT} (hft : FTOk P ft) {k : FuncId} {args : List AV} {vs : Array Value} {W : World} {H' : Heap} (hgo : ∃ p n rs body, ft k = some (.go p n rs body))
    (h : callL ft (.fn (.func k) [] []) args Heap.empty = some (.sc (.bool true), H')) (hv : VRs m0 (frzW W) args vs) :
    Calls P k vs W fun e W' => e = .returned (.bool true) ∧ Below W.heap.size W W' := by
  obtain ⟨n, hn⟩ := callL_some.1 h
  have hn' : callF ft (exec ft n) k args Heap.empty = some (.sc (.bool true), H') := by simpa [callV] using hn
  refine (callF_sound hP hft n hn' (inv0 W) hv hgo).mono fun e W' he => ?_
  obtain ⟨u, m', F', rfl, hu, _, hx, _⟩ := he
  refine ⟨?_, below_of hx⟩
  cases hu with
  | fz hu => cases hu; rfl
theorem go_ok {P : Program} {k : FuncId} {n : Nat} {rs : List ARes} {body : ACode} (h : compF P k = some (n, rs, body)) (hn : (P.funcs[k]?).all (fun fn => !(fn.name == "runtime.NumGoroutine")) = true) :
    ∃ fn c, P.funcs[k]? = some fn ∧ (fn.name == "runtime.NumGoroutine") = false ∧ fn.body = some c ∧ compC P c = some body ∧ fn.ntmps = n ∧ fn.results.toList.mapM (compRes P) = some rs := by
  unfold compF at h
  simp only [Option.bind_eq_some_iff, Option.map_eq_some_iff, Prod.mk.injEq] at h
  obtain ⟨fn, h1, b, h2, c, h3, rs', h4, rfl, rfl, rfl⟩ := h
  rw [h1] at hn
  exact ⟨fn, b, h1, by simpa using hn, h2, h3, rfl, h4⟩
end Go.VI

set_option linter.unusedVariables false
set_option maxRecDepth 100000
namespace Go.VI
theorem fc3 : compF Go.Proofs.Try.prog 3 = some (139, r3, c3) := by rfl
theorem fn3 : (Go.Proofs.Try.prog.funcs[3]?).all (fun fn => !(fn.name == "runtime.NumGoroutine")) = true := by kernel_rfl
theorem fc11 : compF Go.Proofs.Try.prog 11 = some (114, r11, c11) := by rfl
theorem fn11 : (Go.Proofs.Try.prog.funcs[11]?).all (fun fn => !(fn.name == "runtime.NumGoroutine")) = true := by kernel_rfl
theorem fc16 : compF Go.Proofs.Try.prog 16 = some (14, r16, c16) := by rfl
theorem fn16 : (Go.Proofs.Try.prog.funcs[16]?).all (fun fn => !(fn.name == "runtime.NumGoroutine")) = true := by kernel_rfl
theorem fc17 : compF Go.Proofs.Try.prog 17 = some (4, r17, c17) := by rfl
theorem fn17 : (Go.Proofs.Try.prog.funcs[17]?).all (fun fn => !(fn.name == "runtime.NumGoroutine")) = true := by kernel_rfl
theorem fc19 : compF Go.Proofs.Try.prog 19 = some (14, r19, c19) := by rfl
theorem fn19 : (Go.Proofs.Try.prog.funcs[19]?).all (fun fn => !(fn.name == "runtime.NumGoroutine")) = true := by kernel_rfl
theorem fc21 : compF Go.Proofs.Try.prog 21 = some (29, r21, c21) := by rfl
theorem fn21 : (Go.Proofs.Try.prog.funcs[21]?).all (fun fn => !(fn.name == "runtime.NumGoroutine")) = true := by kernel_rfl
theorem fc26 : compF Go.Proofs.Try.prog 26 = some (131, r26, c26) := by rfl
theorem fn26 : (Go.Proofs.Try.prog.funcs[26]?).all (fun fn => !(fn.name == "runtime.NumGoroutine")) = true := by kernel_rfl
theorem fc27 : compF Go.Proofs.Try.prog 27 = some (51, r27, c27) := by rfl
theorem fn27 : (Go.Proofs.Try.prog.funcs[27]?).all (fun fn => !(fn.name == "runtime.NumGoroutine")) = true := by kernel_rfl
theorem fc28 : compF Go.Proofs.Try.prog 28 = some (126, r28, c28) := by rfl
theorem fn28 : (Go.Proofs.Try.prog.funcs[28]?).all (fun fn => !(fn.name == "runtime.NumGoroutine")) = true := by kernel_rfl
theorem fc29 : compF Go.Proofs.Try.prog 29 = some (33, r29, c29) := by rfl
theorem fn29 : (Go.Proofs.Try.prog.funcs[29]?).all (fun fn => !(fn.name == "runtime.NumGoroutine")) = true := by kernel_rfl
theorem fc30 : compF Go.Proofs.Try.prog 30 = some (11, r30, c30) := by rfl
theorem fn30 : (Go.Proofs.Try.prog.funcs[30]?).all (fun fn => !(fn.name == "runtime.NumGoroutine")) = true := by kernel_rfl
theorem fc32 : compF Go.Proofs.Try.prog 32 = some (44, r32, c32) := by rfl
theorem fn32 : (Go.Proofs.Try.prog.funcs[32]?).all (fun fn => !(fn.name == "runtime.NumGoroutine")) = true := by kernel_rfl
theorem fc33 : compF Go.Proofs.Try.prog 33 = some (21, r33, c33) := by rfl
theorem fn33 : (Go.Proofs.Try.prog.funcs[33]?).all (fun fn => !(fn.name == "runtime.NumGoroutine")) = true := by kernel_rfl
theorem fc34 : compF Go.Proofs.Try.prog 34 = some (21, r34, c34) := by rfl
theorem fn34 : (Go.Proofs.Try.prog.funcs[34]?).all (fun fn => !(fn.name == "runtime.NumGoroutine")) = true := by kernel_rfl
theorem fc35 : compF Go.Proofs.Try.prog 35 = some (21, r35, c35) := by rfl
theorem fn35 : (Go.Proofs.Try.prog.funcs[35]?).all (fun fn => !(fn.name == "runtime.NumGoroutine")) = true := by kernel_rfl
theorem fc36 : compF Go.Proofs.Try.prog 36 = some (21, r36, c36) := by rfl
theorem fn36 : (Go.Proofs.Try.prog.funcs[36]?).all (fun fn => !(fn.name == "runtime.NumGoroutine")) = true := by kernel_rfl
theorem fc37 : compF Go.Proofs.Try.prog 37 = some (59, r37, c37) := by rfl
theorem fn37 : (Go.Proofs.Try.prog.funcs[37]?).all (fun fn => !(fn.name == "runtime.NumGoroutine")) = true := by kernel_rfl
theorem fc38 : compF Go.Proofs.Try.prog 38 = some (17, r38, c38) := by rfl
theorem fn38 : (Go.Proofs.Try.prog.funcs[38]?).all (fun fn => !(fn.name == "runtime.NumGoroutine")) = true := by kernel_rfl
theorem fc39 : compF Go.Proofs.Try.prog 39 = some (8, r39, c39) := by rfl
theorem fn39 : (Go.Proofs.Try.prog.funcs[39]?).all (fun fn => !(fn.name == "runtime.NumGoroutine")) = true := by kernel_rfl
theorem fc40 : compF Go.Proofs.Try.prog 40 = some (8, r40, c40) := by rfl
theorem fn40 : (Go.Proofs.Try.prog.funcs[40]?).all (fun fn => !(fn.name == "runtime.NumGoroutine")) = true := by kernel_rfl
theorem fc41 : compF Go.Proofs.Try.prog 41 = some (59, r41, c41) := by rfl
theorem fn41 : (Go.Proofs.Try.prog.funcs[41]?).all (fun fn => !(fn.name == "runtime.NumGoroutine")) = true := by kernel_rfl
theorem fc42 : compF Go.Proofs.Try.prog 42 = some (18, r42, c42) := by rfl
theorem fn42 : (Go.Proofs.Try.prog.funcs[42]?).all (fun fn => !(fn.name == "runtime.NumGoroutine")) = true := by kernel_rfl
theorem fc43 : compF Go.Proofs.Try.prog 43 = some (12, r43, c43) := by rfl
theorem fn43 : (Go.Proofs.Try.prog.funcs[43]?).all (fun fn => !(fn.name == "runtime.NumGoroutine")) = true := by kernel_rfl
theorem fc44 : compF Go.Proofs.Try.prog 44 = some (27, r44, c44) := by rfl
theorem fn44 : (Go.Proofs.Try.prog.funcs[44]?).all (fun fn => !(fn.name == "runtime.NumGoroutine")) = true := by kernel_rfl
theorem fc45 : compF Go.Proofs.Try.prog 45 = some (16, r45, c45) := by rfl
theorem fn45 : (Go.Proofs.Try.prog.funcs[45]?).all (fun fn => !(fn.name == "runtime.NumGoroutine")) = true := by kernel_rfl
theorem fc46 : compF Go.Proofs.Try.prog 46 = some (26, r46, c46) := by rfl
theorem fn46 : (Go.Proofs.Try.prog.funcs[46]?).all (fun fn => !(fn.name == "runtime.NumGoroutine")) = true := by kernel_rfl
theorem fc47 : compF Go.Proofs.Try.prog 47 = some (40, r47, c47) := by rfl
theorem fn47 : (Go.Proofs.Try.prog.funcs[47]?).all (fun fn => !(fn.name == "runtime.NumGoroutine")) = true := by kernel_rfl
theorem fc51 : compF Go.Proofs.Try.prog 51 = some (17, r51, c51) := by rfl
theorem fn51 : (Go.Proofs.Try.prog.funcs[51]?).all (fun fn => !(fn.name == "runtime.NumGoroutine")) = true := by kernel_rfl
theorem fc54 : compF Go.Proofs.Try.prog 54 = some (32, r54, c54) := by rfl
theorem fn54 : (Go.Proofs.Try.prog.funcs[54]?).all (fun fn => !(fn.name == "runtime.NumGoroutine")) = true := by kernel_rfl
theorem fc55 : compF Go.Proofs.Try.prog 55 = some (84, r55, c55) := by rfl
theorem fn55 : (Go.Proofs.Try.prog.funcs[55]?).all (fun fn => !(fn.name == "runtime.NumGoroutine")) = true := by kernel_rfl
theorem fc56 : compF Go.Proofs.Try.prog 56 = some (48, r56, c56) := by rfl
theorem fn56 : (Go.Proofs.Try.prog.funcs[56]?).all (fun fn => !(fn.name == "runtime.NumGoroutine")) = true := by kernel_rfl
theorem fc58 : compF Go.Proofs.Try.prog 58 = some (27, r58, c58) := by rfl
theorem fn58 : (Go.Proofs.Try.prog.funcs[58]?).all (fun fn => !(fn.name == "runtime.NumGoroutine")) = true := by kernel_rfl
theorem fc59 : compF Go.Proofs.Try.prog 59 = some (56, r59, c59) := by rfl
theorem fn59 : (Go.Proofs.Try.prog.funcs[59]?).all (fun fn => !(fn.name == "runtime.NumGoroutine")) = true := by kernel_rfl
theorem fc60 : compF Go.Proofs.Try.prog 60 = some (12, r60, c60) := by rfl
theorem fn60 : (Go.Proofs.Try.prog.funcs[60]?).all (fun fn => !(fn.name == "runtime.NumGoroutine")) = true := by kernel_rfl
theorem fc61 : compF Go.Proofs.Try.prog 61 = some (8, r61, c61) := by rfl
theorem fn61 : (Go.Proofs.Try.prog.funcs[61]?).all (fun fn => !(fn.name == "runtime.NumGoroutine")) = true := by kernel_rfl
theorem fc62 : compF Go.Proofs.Try.prog 62 = some (113, r62, c62) := by rfl
theorem fn62 : (Go.Proofs.Try.prog.funcs[62]?).all (fun fn => !(fn.name == "runtime.NumGoroutine")) = true := by kernel_rfl
theorem fc63 : compF Go.Proofs.Try.prog 63 = some (48, r63, c63) := by rfl
theorem fn63 : (Go.Proofs.Try.prog.funcs[63]?).all (fun fn => !(fn.name == "runtime.NumGoroutine")) = true := by kernel_rfl
theorem fc64 : compF Go.Proofs.Try.prog 64 = some (33, r64, c64) := by rfl
theorem fn64 : (Go.Proofs.Try.prog.funcs[64]?).all (fun fn => !(fn.name == "runtime.NumGoroutine")) = true := by kernel_rfl
theorem fc65 : compF Go.Proofs.Try.prog 65 = some (8, r65, c65) := by rfl
theorem fn65 : (Go.Proofs.Try.prog.funcs[65]?).all (fun fn => !(fn.name == "runtime.NumGoroutine")) = true := by kernel_rfl
theorem fc66 : compF Go.Proofs.Try.prog 66 = some (49, r66, c66) := by rfl
theorem fn66 : (Go.Proofs.Try.prog.funcs[66]?).all (fun fn => !(fn.name == "runtime.NumGoroutine")) = true := by kernel_rfl
theorem fc67 : compF Go.Proofs.Try.prog 67 = some (9, r67, c67) := by rfl
theorem fn67 : (Go.Proofs.Try.prog.funcs[67]?).all (fun fn => !(fn.name == "runtime.NumGoroutine")) = true := by kernel_rfl
theorem fc68 : compF Go.Proofs.Try.prog 68 = some (106, r68, c68) := by rfl
theorem fn68 : (Go.Proofs.Try.prog.funcs[68]?).all (fun fn => !(fn.name == "runtime.NumGoroutine")) = true := by kernel_rfl
theorem fc70 : compF Go.Proofs.Try.prog 70 = some (38, r70, c70) := by rfl
theorem fn70 : (Go.Proofs.Try.prog.funcs[70]?).all (fun fn => !(fn.name == "runtime.NumGoroutine")) = true := by kernel_rfl
theorem fc71 : compF Go.Proofs.Try.prog 71 = some (31, r71, c71) := by rfl
theorem fn71 : (Go.Proofs.Try.prog.funcs[71]?).all (fun fn => !(fn.name == "runtime.NumGoroutine")) = true := by kernel_rfl
theorem ft_ok : FTOk Go.Proofs.Try.prog ft := by
  intro k d h
  unfold ft at h
  split at h
  · cases h; exact go_ok fc3 fn3
  · cases h; exact go_ok fc11 fn11
  · cases h; exact go_ok fc16 fn16
  · cases h; exact go_ok fc17 fn17
  · cases h; exact go_ok fc19 fn19
  · cases h; exact go_ok fc21 fn21
  · cases h; exact go_ok fc26 fn26
  · cases h; exact go_ok fc27 fn27
  · cases h; exact go_ok fc28 fn28
  · cases h; exact go_ok fc29 fn29
  · cases h; exact go_ok fc30 fn30
  · cases h; exact go_ok fc32 fn32
  · cases h; exact go_ok fc33 fn33
  · cases h; exact go_ok fc34 fn34
  · cases h; exact go_ok fc35 fn35
  · cases h; exact go_ok fc36 fn36
  · cases h; exact go_ok fc37 fn37
  · cases h; exact go_ok fc38 fn38
  · cases h; exact go_ok fc39 fn39
  · cases h; exact go_ok fc40 fn40
  · cases h; exact go_ok fc41 fn41
  · cases h; exact go_ok fc42 fn42
  · cases h; exact go_ok fc43 fn43
  · cases h; exact go_ok fc44 fn44
  · cases h; exact go_ok fc45 fn45
  · cases h; exact go_ok fc46 fn46
  · cases h; exact go_ok fc47 fn47
  · cases h; exact go_ok fc51 fn51
  · cases h; exact go_ok fc54 fn54
  · cases h; exact go_ok fc55 fn55
  · cases h; exact go_ok fc56 fn56
  · cases h; exact go_ok fc58 fn58
  · cases h; exact go_ok fc59 fn59
  · cases h; exact go_ok fc60 fn60
  · cases h; exact go_ok fc61 fn61
  · cases h; exact go_ok fc62 fn62
  · cases h; exact go_ok fc63 fn63
  · cases h; exact go_ok fc64 fn64
  · cases h; exact go_ok fc65 fn65
  · cases h; exact go_ok fc66 fn66
  · cases h; exact go_ok fc67 fn67
  · cases h; exact go_ok fc68 fn68
  · cases h; exact go_ok fc70 fn70
  · cases h; exact go_ok fc71 fn71
  · cases h; exact cmp_ok Go.Proofs.Try.func69 (by kernel_rfl) (by kernel_rfl) (by kernel_rfl) (by kernel_rfl)
  · cases h
theorem follows : Go.Proofs.Try.prog.follows .mixedOrders = true := by kernel_rfl
end Go.VI

set_option linter.unusedVariables false
set_option linter.unusedSimpArgs false
namespace Go.VI
open Go.Proofs
theorem RD.mono {P : Program} {W : World} {t : TypeId} {E E' : List AV → Prop} (h : RD P W t E) (hE : ∀ xs, E xs → E' xs) : RD P W t E' := fun H enc base spare held fuel cs x hx hw => by
  obtain ⟨xs, h1, h2⟩ := h H enc base spare held fuel cs x hx hw
  exact ⟨xs, hE xs h1, h2⟩
theorem rows_map {α : Type} {g : α → List AV} {p : α → Prop} : ∀ {rows : List (List AV)}, (∀ r ∈ rows, ∃ x, r = g x ∧ p x) → ∃ l : List α, rows = l.map g ∧ ∀ x ∈ l, p x
  | [], _ => ⟨[], rfl, by simp⟩
  | r :: rows, h => by
    obtain ⟨x, rfl, hx⟩ := h r List.mem_cons_self
    obtain ⟨l, rfl, hl⟩ := rows_map fun r hr => h r (List.mem_cons_of_mem _ hr)
    exact ⟨x :: l, rfl, fun y hy => by
      rcases List.mem_cons.1 hy with rfl | hy
      · exact hx
      · exact hl y hy⟩
variable (W : World)
theorem rdB : RD Try.prog W 23 fun xs => ∃ l : Bytes, xs = [encB l] ∧ okB l :=
  (rd_slice (sz := 1) (B := 1) Try.underlying23 (by kernel_rfl) (by decide) (by kernel_rfl) (rd_int Try.underlying5)).mono fun xs ⟨rows, h1, h2, h3⟩ => by
    obtain ⟨l, rfl, hl⟩ := rows_map (g := byteC) (p := fun n => (Lit.int .u8 n).wf = true) fun r hr => (h2 r hr).1
    refine ⟨l, h1, ?_, ?_⟩
    · simp only [List.length_map, reachBytes] at h3
      unfold MX
      omega
    · unfold byteR
      rw [List.all_eq_true]
      intro n hn
      have := hl n hn
      simp only [Lit.wf, IntKind.min, IntKind.max, IntKind.signed, IntKind.bits] at this
      simp at this
      simp
      omega
theorem rdN : RD Try.prog W 3 fun xs => ∃ n, xs = [int n] ∧ (Lit.int .i64 n).wf = true := rd_int Try.underlying3
theorem rdIt : RD Try.prog W 59 fun xs => ∃ x : ItemM, xs = itemC x ∧ okIt x :=
  (rd_struct (Es := [_, _, _, _]) Try.underlying59 (by kernel_rfl) ⟨rdB W, rdB W, rdN W, rdN W, trivial⟩).mono fun xs h => by
    obtain ⟨_, _, rfl, ⟨k, rfl, hk⟩, _, _, rfl, ⟨v, rfl, hv⟩, _, _, rfl, ⟨s, rfl, _⟩, _, _, rfl, ⟨r, rfl, _⟩, rfl⟩ := h
    exact ⟨⟨k, v, s, r⟩, rfl, hk, hv⟩
theorem rdI : RD Try.prog W 26 fun xs => ∃ l : List ItemM, xs = [encI l] ∧ okI l :=
  (rd_slice (sz := 4) (B := 64) Try.underlying26 (by kernel_rfl) (by decide) (by kernel_rfl) (rdIt W)).mono fun xs ⟨rows, h1, h2, h3⟩ => by
    obtain ⟨l, rfl, hl⟩ := rows_map (g := itemC) (p := okIt) fun r hr => (h2 r hr).1
    refine ⟨l, h1, ?_, hl⟩
    simp only [List.length_map, reachBytes] at h3
    unfold MX
    omega
theorem rdKd : RD Try.prog W 93 fun xs => ∃ x : KidM, xs = kidC x ∧ okB x.key :=
  (rd_struct (Es := [_, _]) Try.underlying93 (by kernel_rfl) ⟨rdB W, rdN W, trivial⟩).mono fun xs h => by
    obtain ⟨_, _, rfl, ⟨k, rfl, hk⟩, _, _, rfl, ⟨r, rfl, _⟩, rfl⟩ := h
    exact ⟨⟨k, r⟩, rfl, hk⟩
theorem rdK : RD Try.prog W 27 fun xs => ∃ l : List KidM, xs = [encK l] ∧ okK l :=
  (rd_slice (sz := 2) (B := 32) Try.underlying27 (by kernel_rfl) (by decide) (by kernel_rfl) (rdKd W)).mono fun xs ⟨rows, h1, h2, h3⟩ => by
    obtain ⟨l, rfl, hl⟩ := rows_map (g := kidC) (p := fun x => okB x.key) fun r hr => (h2 r hr).1
    refine ⟨l, h1, ?_, hl⟩
    simp only [List.length_map, reachBytes] at h3
    unfold MX
    omega
theorem rdNode : RD Try.prog W 29 fun xs => ∃ x : NodeM, xs = nodeC x ∧ okN x :=
  (rd_struct (Es := [_, _, _]) Try.underlying29 (by kernel_rfl) ⟨rd_bool Try.underlying4, rdI W, rdK W, trivial⟩).mono fun xs h => by
    obtain ⟨_, _, rfl, ⟨b, rfl⟩, _, _, rfl, ⟨i, rfl, hi⟩, _, _, rfl, ⟨k, rfl, hk⟩, rfl⟩ := h
    exact ⟨⟨b, i, k⟩, rfl, hi, hk⟩
theorem rdNm : RD Try.prog W 31 fun xs => ∃ x : NamedM, xs = namedC x ∧ okN x.n :=
  (rd_struct (Es := [_, _]) Try.underlying31 (by kernel_rfl) ⟨rdN W, rdNode W, trivial⟩).mono fun xs h => by
    obtain ⟨_, _, rfl, ⟨r, rfl, _⟩, _, _, rfl, ⟨n, rfl, hn⟩, rfl⟩ := h
    exact ⟨⟨r, n⟩, by simp [namedC], hn⟩
theorem rdL : RD Try.prog W 22 fun xs => ∃ l : List NamedM, xs = [encL l] ∧ okL l :=
  (rd_slice (sz := 4) (B := 64) Try.underlying22 (by kernel_rfl) (by decide) (by kernel_rfl) (rdNm W)).mono fun xs ⟨rows, h1, h2, h3⟩ => by
    obtain ⟨l, rfl, hl⟩ := rows_map (g := namedC) (p := fun x => okN x.n) fun r hr => (h2 r hr).1
    refine ⟨l, h1, ?_, hl⟩
    simp only [List.length_map, reachBytes] at h3
    unfold MX
    omega
end Go.VI

set_option linter.unusedVariables false
set_option linter.unusedSimpArgs false
set_option maxRecDepth 100000
namespace Go.VI
attribute [local congr] AW_congr OW_congr DW_congr NW_congr VW_congr GW_congr PW_congr KW_congr ite_congr' GV_congr CV_congr
theorem cmpB_gt {a b : Bytes} : cmpB a b < 0 ↔ 0 < cmpB b a := by
  have := cmpB_swap a b
  omega
def KeepB (H H' : Heap) : Prop := H.next ≤ H'.next ∧ ∀ id fz c, H.get id = some (.box fz c) → H'.get id = some (.box fz c)
theorem KeepB.trans {H H' H'' : Heap} (h : KeepB H H') (h' : KeepB H' H'') : KeepB H H'' := ⟨Nat.le_trans h.1 h'.1, fun id fz c hg => h'.2 id fz c (h.2 id fz c hg)⟩
theorem KeepB.hx {H : Heap} (L : List Blk) : KeepB H (hx H L) := ⟨by rw [hx_next]; omega, fun _ _ _ h => get_old h L⟩
/-- Numbers, finished or growing. -/
def FZN (K : Heap) (S : AV) (l : List Int) : Prop := S = encN l ∨ ∃ id, S = .sl id 0 l.length ∧ K.get id = some (.row false 1 (l.map intC))
theorem FZN.fz {K : Heap} {S : AV} {l : List Int} (h : FZN K S l) (n : Nat) : ∃ K', frz (n + 1) K S = some (encN l, K') ∧ KeepB K K' := by
  rcases h with rfl | ⟨id, rfl, h⟩
  · exact ⟨K, rfl, Nat.le_refl _, fun _ _ _ h => h⟩
  · refine ⟨_, fz_sl1 h (by simp) n, by simp, fun j fz c hj => ?_⟩
    rw [Heap.get_set_ne _ (fun e => by rw [e, h] at hj; cases hj), hj]
theorem FZN.one {K : Heap} {S : AV} {l : List Int} (h : FZN K S l) : S.one = true := by
  rcases h with rfl | ⟨id, rfl, h⟩ <;> rfl
theorem FZN.hx {K : Heap} {S : AV} {l : List Int} (h : FZN K S l) (L : List Blk) : FZN (hx K L) S l := by
  rcases h with rfl | ⟨id, rfl, h⟩
  · exact .inl rfl
  · exact .inr ⟨id, rfl, get_old h L⟩
theorem goM_ok {v : PlaceM → WM → Int × WM} {p : PlaceM} {n : NodeM} {k : Nat} {ks : List Nat} {w : WM} (h : (v (kidM p n k) w).1 = 0) : goM v p n (k :: ks) w = goM v p n ks (v (kidM p n k) w).2 := by
  rw [goM, if_neg (by simpa using h)]
theorem goM_bad {v : PlaceM → WM → Int × WM} {p : PlaceM} {n : NodeM} {k : Nat} {ks : List Nat} {w : WM} (h : (v (kidM p n k) w).1 ≠ 0) : goM v p n (k :: ks) w = v (kidM p n k) w := by
  rw [goM, if_pos h]
end Go.VI

set_option linter.unusedVariables false
set_option linter.unusedSimpArgs false
set_option maxRecDepth 100000
namespace Go.VI
attribute [local congr] AW_congr OW_congr DW_congr NW_congr VW_congr GW_congr PW_congr KW_congr ite_congr' GV_congr CV_congr
theorem okW_all {l : List NamedM} (ht : tinyL l) (root : Int) : okW l (allM l root).1 := by
  have h0 : okW l w0 := ⟨List.nodup_nil, (by intro r hr; cases hr), Nat.le_refl _⟩
  unfold allM
  split
  · exact h0
  · exact okW_visit ht 12 _ _ h0
theorem few_len {l : List NamedM} (h : fewM l = true) : l.length ≤ 1000 := by
  simp only [fewM, Bool.and_eq_true, decide_eq_true_eq] at h
  omega
end Go.VI

set_option linter.unusedVariables false
set_option linter.unusedSimpArgs false
namespace Go.VI
theorem cmpB_eq : ∀ {a b : Bytes}, cmpB a b = 0 → a = b
  | [], [], _ => rfl
  | [], _ :: _, h => by simp [cmpB] at h
  | _ :: _, [], h => by simp [cmpB] at h
  | x :: a, y :: b, h => by
    simp only [cmpB] at h
    by_cases h1 : x < y
    · simp [h1] at h
    · by_cases h2 : y < x
      · simp [h1, h2] at h
      · simp only [h1, h2, if_false] at h
        have : x = y := by omega
        rw [this, cmpB_eq h]
theorem le_le {a b c : Bytes} (h : cmpB a b ≤ 0) (k : cmpB b c ≤ 0) : cmpB a c ≤ 0 := by
  by_cases h0 : cmpB a b = 0
  · rw [cmpB_eq h0]; exact k
  · exact Int.le_of_lt (cmpB_trans a b c (by omega) k)
theorem ge_iff {a b : Bytes} : 0 ≤ cmpB a b ↔ cmpB b a ≤ 0 := by
  have := cmpB_swap a b
  omega
def Rise (l : List Bytes) : Prop := l.Pairwise fun x y => cmpB x y < 0
theorem ksM_bnd {p : PlaceM} : ∀ {l : List Bytes} {o : Option Bytes}, ksM p o l = true → ∀ x ∈ l, bndM p x = true
  | [], _, _, x, hx => by cases hx
  | y :: l, o, h, x, hx => by
    simp only [ksM, Bool.and_eq_true] at h
    rcases List.mem_cons.1 hx with rfl | hx
    · exact h.1.1
    · exact ksM_bnd h.2 x hx
theorem ksM_rise {p : PlaceM} : ∀ {l : List Bytes} {o : Option Bytes}, ksM p o l = true → Rise l ∧ ∀ y, o = some y → ∀ x ∈ l, cmpB y x < 0
  | [], _, _ => ⟨List.Pairwise.nil, fun _ _ x hx => by cases hx⟩
  | z :: l, o, h => by
    simp only [ksM, Bool.and_eq_true] at h
    obtain ⟨h1, h2⟩ := ksM_rise h.2
    refine ⟨List.pairwise_cons.2 ⟨h2 z rfl, h1⟩, fun y hy x hx => ?_⟩
    subst hy
    have h3 : cmpB y z < 0 := by simpa using h.1.2
    rcases List.mem_cons.1 hx with rfl | hx
    · exact h3
    · exact cmpB_trans _ _ _ h3 (Int.le_of_lt (h2 z rfl x hx))
theorem bnd_iff {p : PlaceM} {k : Bytes} : bndM p k = true ↔ (p.li = true → cmpB p.lk k ≤ 0) ∧ (p.hi = true → cmpB k p.hk < 0) := by
  unfold bndM
  have := @ge_iff k p.lk
  cases p.li <;> cases p.hi <;> simp [this]
inductive Tr (l : List NamedM) : Nat → PlaceM → Int → List ItemM → Prop
  | leaf {d : Nat} {p : PlaceM} {n : NodeM} (hn : nodeM l p.ref = (n, 0)) (hl : n.leaf = true) (hk : n.kids = []) (ho : ksM p none (n.items.map (·.key)) = true) (he : p.deep = 1 ∨ n.items ≠ []) : Tr l (d + 1) p p.deep n.items
  | branch {d : Nat} {p : PlaceM} {n : NodeM} {D : Int} {its : List (List ItemM)} (hn : nodeM l p.ref = (n, 0)) (hl : n.leaf = false) (hk : 2 ≤ n.kids.length) (ho : ksM p none ((n.kids.drop 1).map (·.key)) = true)
      (hi : its.length = n.kids.length) (h : ∀ (k : Nat) (x : List ItemM), its[k]? = some x → Tr l d (kidM p n k) D x) : Tr l (d + 1) p D its.flatten
theorem go_Tr {l : List NamedM} {d : Nat} {p : PlaceM} {n : NodeM} (hv : ∀ (k : Nat) (w : WM), (visitM l d (kidM p n k) w).1 = 0 → ∃ its, (visitM l d (kidM p n k) w).2.items = w.items ++ its ∧ Tr l d (kidM p n k) (visitM l d (kidM p n k) w).2.depth its ∧ 0 < (visitM l d (kidM p n k) w).2.depth ∧
      (0 < w.depth → (visitM l d (kidM p n k) w).2.depth = w.depth)) : ∀ (j k : Nat) (w : WM), (goM (visitM l d) p n (List.range' k j) w).1 = 0 →
    ∃ its : List (List ItemM), its.length = j ∧ (goM (visitM l d) p n (List.range' k j) w).2.items = w.items ++ its.flatten ∧ (∀ (i : Nat) (x : List ItemM), its[i]? = some x → Tr l d (kidM p n (k + i)) (goM (visitM l d) p n (List.range' k j) w).2.depth x) ∧
      (0 < j → 0 < (goM (visitM l d) p n (List.range' k j) w).2.depth) ∧ (0 < w.depth → (goM (visitM l d) p n (List.range' k j) w).2.depth = w.depth)
  | 0, k, w, _ => ⟨[], rfl, by simp [goM], by simp, by simp, fun _ => by simp [goM]⟩
  | j + 1, k, w, h => by
    rw [List.range'_succ] at h ⊢
    by_cases h0 : (visitM l d (kidM p n k) w).1 = 0
    · rw [goM_ok h0] at h ⊢
      obtain ⟨a, h1, h2, h3, h4⟩ := hv k w h0
      obtain ⟨as', g1, g2, g3, g4, g5⟩ := go_Tr hv j (k + 1) _ h
      have hD := g5 h3
      refine ⟨a :: as', by simp [g1], ?_, fun i x hx => ?_, fun _ => by rw [hD]; exact h3, fun hw => by rw [hD]; exact h4 hw⟩
      · rw [g2, h1, List.flatten_cons, List.append_assoc]
      · cases i with
        | zero =>
          cases hx
          rw [hD]
          exact h2
        | succ i =>
          have := g3 i x hx
          rwa [show k + 1 + i = k + (i + 1) by omega] at this
    · rw [goM_bad h0] at h
      exact absurd h h0
theorem visit_Tr {l : List NamedM} : ∀ (d : Nat) (p : PlaceM) (w : WM), 1 ≤ p.deep → (visitM l d p w).1 = 0 →
    ∃ its, (visitM l d p w).2.items = w.items ++ its ∧ Tr l d p (visitM l d p w).2.depth its ∧ 0 < (visitM l d p w).2.depth ∧ (0 < w.depth → (visitM l d p w).2.depth = w.depth)
  | 0, p, w, _, h => by cases h
  | d + 1, p, w, hd, h => by
    have hv : visitM l (d + 1) p w = if (nodeW l p w).2.1 ≠ 0 then ((nodeW l p w).2.1, (nodeW l p w).2.2) else goM (visitM l d) p (nodeW l p w).1 (List.range (nodeW l p w).1.kids.length) (nodeW l p w).2.2 := rfl
    rw [hv] at h ⊢
    by_cases he : (nodeW l p w).2.1 = 0
    · rw [if_neg (by simpa using he)] at h ⊢
      unfold nodeW at he h ⊢
      by_cases h1 : 12 < p.deep
      · rw [if_pos h1] at he; cases he
      · rw [if_neg h1] at he h ⊢
        by_cases h2 : (nodeM l p.ref).2 ≠ 0
        · rw [if_pos h2] at he; exact absurd he h2
        · rw [if_neg h2] at he h ⊢
          by_cases h3 : (w.refs.contains p.ref || !formM w.depth p (nodeM l p.ref).1) = true
          · rw [if_pos h3] at he; cases he
          · rw [if_neg h3] at he h ⊢
            have hn : nodeM l p.ref = ((nodeM l p.ref).1, 0) := by
              have : (nodeM l p.ref).2 = 0 := by simpa using h2
              rw [← this]
            have hf : formM w.depth p (nodeM l p.ref).1 = true := by
              cases hh : formM w.depth p (nodeM l p.ref).1 with
              | true => rfl
              | false => rw [hh] at h3; simp at h3
            generalize (nodeM l p.ref).1 = n at *
            simp only at h ⊢
            unfold formM at hf
            cases hl : n.leaf with
            | true =>
              simp only [hl, if_true] at hf h ⊢
              simp only [Bool.and_eq_true, Bool.not_eq_true', decide_eq_false_iff_not] at hf
              obtain ⟨⟨⟨f1, f2⟩, f3⟩, f4⟩ := hf
              have hk : n.kids = [] := List.eq_nil_of_length_eq_zero (by omega)
              have e : keysM n = n.items.map (·.key) := by simp [keysM, hk]
              rw [e] at f4
              have hr : List.range n.kids.length = [] := by rw [hk]; rfl
              rw [hr]
              refine ⟨n.items, rfl, .leaf hn hl hk f4 ?_, by show 0 < p.deep; omega, fun hw => ?_⟩
              · rcases Bool.or_eq_true_iff.1 f2 with q | q
                · right
                  intro hh
                  rw [hh] at q
                  simp at q
                · left
                  simpa using q
              · show p.deep = w.depth
                have : decide (0 < w.depth) = true := by simpa using hw
                rw [this, Bool.true_and] at f3
                simp at f3
                exact f3.symm
            | false =>
              simp only [hl, Bool.false_eq_true, if_false] at hf h ⊢
              simp only [Bool.and_eq_true, Bool.not_eq_true', decide_eq_false_iff_not] at hf
              obtain ⟨⟨f1, f2⟩, f4⟩ := hf
              have hk : n.items = [] := List.eq_nil_of_length_eq_zero (by omega)
              have e : keysM n = (n.kids.drop 1).map (·.key) := by simp [keysM, hk]
              rw [e] at f4
              rw [List.range_eq_range'] at h ⊢
              obtain ⟨its, g1, g2, g3, g4, g5⟩ := go_Tr (fun k w hh => visit_Tr d (kidM p n k) w (by show 1 ≤ p.deep + 1; omega) hh) n.kids.length 0 ⟨w.items, w.refs ++ [p.ref], w.depth⟩ h
              exact ⟨its.flatten, g2, .branch hn hl (by omega) f4 g1 (fun k x hx => by simpa using g3 k x hx), g4 (by omega), g5⟩
    · rw [if_pos he] at h
      exact absurd h he
theorem kid_key {n : NodeM} {k : Nat} (h : k < n.kids.length) : ((n.kids[k]?).map (·.key)).getD [] = n.kids[k].key := by simp [h]
theorem kid_low {p : PlaceM} {n : NodeM} {k : Nat} (h : k < n.kids.length) (h0 : 0 < k) : (kidM p n k).li = true ∧ (kidM p n k).lk = n.kids[k].key := by
  simp only [kidM, if_pos h0, kid_key h, and_self]
theorem kid_low0 {p : PlaceM} {n : NodeM} : (kidM p n 0).li = p.li ∧ (kidM p n 0).lk = p.lk := by simp [kidM]
theorem kid_high {p : PlaceM} {n : NodeM} {k : Nat} (h : k + 1 < n.kids.length) : (kidM p n k).hi = true ∧ (kidM p n k).hk = n.kids[k + 1].key := by
  simp only [kidM, if_pos h, kid_key h, and_self]
theorem kid_high0 {p : PlaceM} {n : NodeM} {k : Nat} (h : ¬ k + 1 < n.kids.length) : (kidM p n k).hi = p.hi ∧ (kidM p n k).hk = p.hk := by simp [kidM, h]
theorem drop_rise {n : NodeM} {i j : Nat} (h : Rise ((n.kids.drop 1).map (·.key))) (hi : 0 < i) (hij : i < j) (hj : j < n.kids.length) : cmpB n.kids[i].key n.kids[j].key < 0 := by
  have := List.pairwise_iff_getElem.1 h (i - 1) (j - 1) (by simp; omega) (by simp; omega) (by omega)
  simpa [show i - 1 + 1 = i by omega, show j - 1 + 1 = j by omega, Nat.add_comm 1] using this
theorem drop_rise' {n : NodeM} {i j : Nat} (h : Rise ((n.kids.drop 1).map (·.key))) (hi : 0 < i) (hij : i ≤ j) (hj : j < n.kids.length) : cmpB n.kids[i].key n.kids[j].key ≤ 0 := by
  by_cases e : i = j
  · subst e
    rw [cmpB_refl]
    exact Int.le_refl _
  · exact Int.le_of_lt (drop_rise h hi (by omega) hj)
theorem drop_bnd {p : PlaceM} {n : NodeM} {i : Nat} (h : ksM p none ((n.kids.drop 1).map (·.key)) = true) (hi : 0 < i) (hj : i < n.kids.length) : bndM p n.kids[i].key = true :=
  ksM_bnd h _ (List.mem_map.2 ⟨n.kids[i], List.mem_iff_getElem.2 ⟨i - 1, by simp; omega, by simp [show 1 + (i - 1) = i by omega, show i - 1 + 1 = i by omega]⟩, rfl⟩)
/-- What is between a kid's keys is between its parent's. -/
theorem kid_bnd {p : PlaceM} {n : NodeM} {k : Nat} (ho : ksM p none ((n.kids.drop 1).map (·.key)) = true) (hk : k < n.kids.length) {key : Bytes} (h : bndM (kidM p n k) key = true) : bndM p key = true := by
  rw [bnd_iff] at h ⊢
  refine ⟨fun hp => ?_, fun hp => ?_⟩
  · by_cases h0 : 0 < k
    · obtain ⟨e1, e2⟩ := kid_low (p := p) hk h0
      have h1 := h.1 e1
      rw [e2] at h1
      exact le_le ((bnd_iff.1 (drop_bnd ho h0 hk)).1 hp) h1
    · have : k = 0 := by omega
      subst this
      have h1 := h.1
      rw [kid_low0.1, kid_low0.2] at h1
      exact h1 hp
  · by_cases h0 : k + 1 < n.kids.length
    · obtain ⟨e1, e2⟩ := kid_high (p := p) h0
      have h1 := h.2 e1
      rw [e2] at h1
      exact cmpB_trans _ _ _ h1 (Int.le_of_lt ((bnd_iff.1 (drop_bnd ho (by omega) h0)).2 hp))
    · obtain ⟨e1, e2⟩ := kid_high0 (p := p) h0
      have h1 := h.2
      rw [e1, e2] at h1
      exact h1 hp
theorem Tr_bnd {l : List NamedM} {d : Nat} {p : PlaceM} {D : Int} {its : List ItemM} (h : Tr l d p D its) : ∀ x ∈ its, bndM p x.key = true := by
  induction h with
  | leaf hn hl hk ho he => exact fun x hx => ksM_bnd ho _ (List.mem_map.2 ⟨x, hx, rfl⟩)
  | branch hn hl hk ho hi h ih =>
    intro x hx
    obtain ⟨y, hy, hx⟩ := List.mem_flatten.1 hx
    obtain ⟨k, hk', e⟩ := List.mem_iff_getElem.1 hy
    have e' := List.getElem?_eq_some_iff.2 ⟨hk', e⟩
    exact kid_bnd ho (by omega) (ih k y e' x hx)
/-- Of two kids the first one's keys are below the other one's. -/
theorem kids_lt {p : PlaceM} {n : NodeM} {i j : Nat} (ho : ksM p none ((n.kids.drop 1).map (·.key)) = true) (hij : i < j) (hj : j < n.kids.length) {a b : Bytes} (ha : bndM (kidM p n i) a = true) (hb : bndM (kidM p n j) b = true) : cmpB a b < 0 := by
  obtain ⟨e1, e2⟩ := kid_high (p := p) (show i + 1 < n.kids.length by omega)
  obtain ⟨f1, f2⟩ := kid_low (p := p) hj (by omega)
  have h1 := (bnd_iff.1 ha).2 e1
  have h2 := (bnd_iff.1 hb).1 f1
  rw [e2] at h1
  rw [f2] at h2
  exact cmpB_trans _ _ _ h1 (le_le (drop_rise' (ksM_rise ho).1 (by omega) hij hj) h2)
def RiseI (l : List ItemM) : Prop := l.Pairwise fun x y => cmpB x.key y.key < 0
theorem rise_risI : ∀ {l : List ItemM}, RiseI l → risI l = true
  | [], _ => rfl
  | [x], _ => rfl
  | x :: y :: l, h => by
    obtain ⟨h1, h2⟩ := List.pairwise_cons.1 h
    simp only [risI, Bool.and_eq_true, decide_eq_true_eq]
    exact ⟨h1 y List.mem_cons_self, rise_risI h2⟩
theorem side_spec (l : List KidM) (key : Bytes) : ∀ k, k < l.length → sideD l key k ≤ k ∧ (∀ (h : sideD l key k < l.length), 0 < sideD l key k → cmpB l[sideD l key k].key key ≤ 0) ∧ (∀ (i : Nat) (h : i < l.length), sideD l key k < i → i ≤ k → 0 < cmpB l[i].key key)
  | 0, h => by
    refine ⟨Nat.le_refl _, fun _ h => by simp [sideD] at h, fun i hi h1 h2 => ?_⟩
    simp [sideD] at h1
    omega
  | k + 1, h => by
    have hs : sideD l key (k + 1) = if 0 < cmpB l[k + 1].key key then sideD l key k else k + 1 := by
      rw [sideD, List.getElem?_eq_getElem h, Option.elim_some]
    obtain ⟨h1, h2, h3⟩ := side_spec l key k (by omega)
    by_cases hc : 0 < cmpB l[k + 1].key key
    · rw [if_pos hc] at hs
      rw [hs]
      refine ⟨by omega, h2, fun i hi g1 g2 => ?_⟩
      by_cases e : i = k + 1
      · subst e; exact hc
      · exact h3 i hi g1 (by omega)
    · rw [if_neg hc] at hs
      refine ⟨by omega, fun h' _ => ?_, fun i hi g1 g2 => by omega⟩
      have : l[sideD l key (k + 1)] = l[k + 1] := by simp only [hs]
      rw [this]
      omega
end Go.VI

set_option linter.unusedVariables false
set_option linter.unusedSimpArgs false
set_option maxRecDepth 100000
namespace Go.VI
attribute [local congr] AW_congr OW_congr DW_congr NW_congr VW_congr GW_congr PW_congr KW_congr ite_congr' GV_congr CV_congr
theorem all_Tr {l : List NamedM} {root : Int} (h : (allM l root).2 = 0) : Tr l 12 (root0 root) (allM l root).1.depth (allM l root).1.items := by
  have hv : (visitM l 12 (root0 root) w0).1 = 0 := by
    unfold allM at h
    split at h
    · exact h
    · rename_i hh; simpa using hh
  have ha : allM l root = ((visitM l 12 (root0 root) w0).2, 0) := by unfold allM; rw [if_neg (by simpa using hv)]
  obtain ⟨its, h1, h2, _, _⟩ := visit_Tr 12 (root0 root) w0 (Int.le_refl _) hv
  rw [ha]
  simp only
  rw [h1]
  exact h2
end Go.VI

set_option linter.unusedVariables false
set_option linter.unusedSimpArgs false
set_option maxRecDepth 100000
namespace Go.VI
attribute [local congr] AW_congr OW_congr DW_congr NW_congr VW_congr GW_congr PW_congr KW_congr ite_congr' GV_congr CV_congr
/-- Nothing below a number has changed. -/
def Stay (B : Nat) (H H' : Heap) : Prop := H.next ≤ H'.next ∧ ∀ j, j < B → H'.get j = H.get j
theorem Stay.rfl' {B : Nat} {H : Heap} : Stay B H H := ⟨Nat.le_refl _, fun _ _ => rfl⟩
theorem Stay.trans {B : Nat} {H H' H'' : Heap} (h : Stay B H H') (h' : Stay B H' H'') : Stay B H H'' := ⟨Nat.le_trans h.1 h'.1, fun j hj => (h'.2 j hj).trans (h.2 j hj)⟩
theorem Stay.hx {B : Nat} {H : Heap} (L : List Blk) (h : B ≤ H.next) : Stay B H (hx H L) := ⟨by rw [hx_next]; omega, fun j hj => hx_get_old _ _ _ (by omega)⟩
theorem Stay.set {B : Nat} {H : Heap} {id : Nat} (b : Blk) (h : B ≤ id) : Stay B H (H.set id b) := ⟨by rw [Heap.next_set]; exact Nat.le_refl _, fun j hj => Heap.get_set_ne _ (by omega)⟩
/-- A slice that was made from a number on. -/
def RepB (B : Nat) (K : Heap) (sz : Nat) (S : AV) (rows : List (List AV)) : Prop := (S = .sc (.slice none 0 0) ∧ rows = []) ∨ ∃ id, B ≤ id ∧ S = .sl id 0 rows.length ∧ K.get id = some (.row false sz rows)
theorem RepB.rep {B : Nat} {K : Heap} {sz : Nat} {S : AV} {rows : List (List AV)} (h : RepB B K sz S rows) : Rep K sz S rows := by
  rcases h with h | ⟨id, _, h1, h2⟩
  · exact .inl h
  · exact .inr ⟨id, h1, h2⟩
theorem RepB.kill {B : Nat} {K : Heap} {sz : Nat} {S : AV} {rows : List (List AV)} (h : RepB B K sz S rows) : Stay B K (kill K S) := by
  rcases h with ⟨rfl, _⟩ | ⟨id, hb, rfl, _⟩
  · exact .rfl'
  · exact .set _ hb
theorem l26a (items : List ItemM) (hi : items.length ≤ 1000) (many at_ B : Nat) (hm : many ≤ 1000) (hat : at_ ≤ 2000) (hle : at_ ≤ items.length) (fan : Int) (K0 : Heap) (s8 s9 s10 : AV) {Q : AExit → Env → Heap → Prop}
   (hex : ∀ f' K S, RepB (B + 1) K 4 S (((items.drop at_).take many).map itemC) → K.get B = some (.box false [boolA true, S, .sc (.slice none 0 0)]) → Stay B K0 K → f' 0 = encI items → f' 1 = int many → f' 2 = int fan → f' 8 = s8 → f' 9 = s9 → f' 10 = s10 → f' 11 = int at_ → f' 12 = .ptr B 0 0 →
      Q (.exit 2) (mkE 131 f') (hx K [])) :
   ∀ (d k : Nat) (S : AV) (K : Heap) (f : Nat → AV), k + d = min items.length (at_ + many) → at_ ≤ k → RepB (B + 1) K 4 S (((items.drop at_).take (k - at_)).map itemC) → K.get B = some (.box false [boolA true, S, .sc (.slice none 0 0)]) → Stay B K0 K →
    f 0 = encI items → f 1 = int many → f 2 = int fan → f 8 = s8 → f 9 = s9 → f 10 = s10 → f 11 = int at_ → f 12 = .ptr B 0 0 → f 13 = int k →
    AW ft (.loop c26L0) (mkE 131 f) (hx K []) Q := by
  intro d
  have wm : IntKind.i64.wrap ((at_ : Int) + (many : Int)) = ((at_ + many : Nat) : Int) := by rw [wrap_i64 (by omega)]; rfl
  induction d with
  | zero =>
    intro k S K f hd hk hr g0 hS h0 h1 h2 h8 h9 h10 h11 h12 h13
    have hrow : (items.drop at_).take (k - at_) = (items.drop at_).take many := by
      rw [List.take_eq_take_iff, List.length_drop]
      omega
    rw [hrow] at hr
    rw [AW_loop]
    unfold c26L0
    by_cases c1 : (k : Int) < items.length
    · have c2 : ((k : Int) < ((at_ + many : Nat) : Int)) = False := eq_false (by omega)
      simp only [↓vp, vq0, vq1, vq2, vq3, vr0, vr1, vr2, vr3, vr4, vr5, vr6, vr7, vr8, vr9, vr10, vr11, vr12, vr13, vr14, vr15, vr16, vr17, vr18, vr19, vr20, vr21, vr22, vr23, vr24, vr25, vr26, vr27, vr28, vr29, vr30, vr31, vr32, vr33, vr34, opS, fpS, okP, pack, nAl, allocA, shId, leaves, fillA, fillR, splice, Nat.reduceLT, Nat.reduceEqDiff, Nat.reduceLeDiff, Nat.reduceAdd, Nat.reduceSub, Nat.reduceMul, Int.reduceBEq, Int.reduceBNe, Int.reduceLT, Int.reduceLE, Int.reduceEq, reduceIte, reduceCtorEq, da, int, boolA, h0, h1, h11, h13, c1, c2, wm]
      refine hex _ K S hr g0 hS ?_ ?_ ?_ ?_ ?_ ?_ ?_ ?_ <;> simp only [↓vp, vq0, vq1, vq2, vq3, vr0, vr1, vr2, vr3, vr4, vr5, vr6, vr7, vr8, vr9, vr10, vr11, vr12, vr13, vr14, vr15, vr16, vr17, vr18, vr19, vr20, vr21, vr22, vr23, vr24, vr25, vr26, vr27, vr28, vr29, vr30, vr31, vr32, vr33, vr34, opS, fpS, okP, pack, nAl, allocA, shId, leaves, fillA, fillR, splice, Nat.reduceLT, Nat.reduceEqDiff, Nat.reduceLeDiff, Nat.reduceAdd, Nat.reduceSub, Nat.reduceMul, Int.reduceBEq, Int.reduceBNe, Int.reduceLT, Int.reduceLE, Int.reduceEq, reduceIte, reduceCtorEq, da, int, boolA, h0, h1, h2, h8, h9, h10, h11, h12]
    · simp only [↓vp, vq0, vq1, vq2, vq3, vr0, vr1, vr2, vr3, vr4, vr5, vr6, vr7, vr8, vr9, vr10, vr11, vr12, vr13, vr14, vr15, vr16, vr17, vr18, vr19, vr20, vr21, vr22, vr23, vr24, vr25, vr26, vr27, vr28, vr29, vr30, vr31, vr32, vr33, vr34, opS, fpS, okP, pack, nAl, allocA, shId, leaves, fillA, fillR, splice, Nat.reduceLT, Nat.reduceEqDiff, Nat.reduceLeDiff, Nat.reduceAdd, Nat.reduceSub, Nat.reduceMul, Int.reduceBEq, Int.reduceBNe, Int.reduceLT, Int.reduceLE, Int.reduceEq, reduceIte, reduceCtorEq, da, int, boolA, h0, h1, h11, h13, c1]
      refine hex _ K S hr g0 hS ?_ ?_ ?_ ?_ ?_ ?_ ?_ ?_ <;> simp only [↓vp, vq0, vq1, vq2, vq3, vr0, vr1, vr2, vr3, vr4, vr5, vr6, vr7, vr8, vr9, vr10, vr11, vr12, vr13, vr14, vr15, vr16, vr17, vr18, vr19, vr20, vr21, vr22, vr23, vr24, vr25, vr26, vr27, vr28, vr29, vr30, vr31, vr32, vr33, vr34, opS, fpS, okP, pack, nAl, allocA, shId, leaves, fillA, fillR, splice, Nat.reduceLT, Nat.reduceEqDiff, Nat.reduceLeDiff, Nat.reduceAdd, Nat.reduceSub, Nat.reduceMul, Int.reduceBEq, Int.reduceBNe, Int.reduceLT, Int.reduceLE, Int.reduceEq, reduceIte, reduceCtorEq, da, int, boolA, h0, h1, h2, h8, h9, h10, h11, h12]
  | succ d ih =>
    intro k S K f hd hk hr g0 hS h0 h1 h2 h8 h9 h10 h11 h12 h13
    have gk : k < items.length := by omega
    have c1 : ((k : Int) < items.length) = True := eq_true (by omega)
    have c2 : ((k : Int) < ((at_ + many : Nat) : Int)) = True := eq_true (by omega)
    have w1 := wrap_succ (show k < 9223372036854775807 by omega)
    have lB := Heap.get_lt g0
    have o0 := get_old g0
    have hrw : (items.drop at_).take (k + 1 - at_) = (items.drop at_).take (k - at_) ++ [items[k]] := by
      rw [show k + 1 - at_ = (k - at_) + 1 by omega, List.take_succ_eq_append_getElem (by simp; omega)]
      simp [show at_ + (k - at_) = k by omega]
    have hlr : ((items.drop at_).take (k - at_)).length = k - at_ := by simp; omega
    have ap := fun nid L => appA_rep (nid := nid) (bytes := 64) hr.rep (xs := [itemC items[k]]) (by simp) rfl (by simp; omega) L
    have kB := kill_old hr.rep g0 (fun r h => by cases h)
    have kn := kill_next K S
    have kg := kill_get hr.rep g0 (fun r h => by cases h)
    have sB := fun (L : List Blk) (b : Blk) => hx_set_old (kill K S) L b B (by rw [kn]; exact lB)
    have nw : (B = K.next) = False := eq_false (by omega)
    rw [AW_loop]
    unfold c26L0
    simp only [↓vp, vq0, vq1, vq2, vq3, vr0, vr1, vr2, vr3, vr4, vr5, vr6, vr7, vr8, vr9, vr10, vr11, vr12, vr13, vr14, vr15, vr16, vr17, vr18, vr19, vr20, vr21, vr22, vr23, vr24, vr25, vr26, vr27, vr28, vr29, vr30, vr31, vr32, vr33, vr34, opS, fpS, okP, pack, nAl, allocA, shId, leaves, fillA, fillR, splice, Nat.reduceLT, Nat.reduceEqDiff, Nat.reduceLeDiff, Nat.reduceAdd, Nat.reduceSub, Nat.reduceMul, Int.reduceBEq, Int.reduceBNe, Int.reduceLT, Int.reduceLE, Int.reduceEq, reduceIte, reduceCtorEq, da, int, boolA, h0, h1, h11, h12, h13, c1, c2, wm, atI gk, cI gk, o0, clIt, ap, kB, kn, sB, nw, w1]
    have hn2 : ((kill K S).set B (.box false [boolA true, .sl (K.next + 1) 0 ((items.drop at_).take (k - at_) ++ [items[k]]).length, .sc (.slice none 0 0)])).next = K.next := by rw [Heap.next_set, kn]
    rw [← hx_nil (hx _ _)]
    refine ih (k + 1) (.sl (K.next + 1) 0 (((items.drop at_).take (k - at_)).length + 1)) _ _ (by omega) (by omega) (.inr ⟨K.next + 1, by omega, ?_, ?_⟩) ?_ ?_ ?_ ?_ ?_ ?_ ?_ ?_ ?_ ?_ ?_
    · rw [hrw]; simp
    · rw [hrw]
      simp only [↓vp, vq0, vq1, vq2, vq3, vr0, vr1, vr2, vr3, vr4, vr5, vr6, vr7, vr8, vr9, vr10, vr11, vr12, vr13, vr14, vr15, vr16, vr17, vr18, vr19, vr20, vr21, vr22, vr23, vr24, vr25, vr26, vr27, vr28, vr29, vr30, vr31, vr32, vr33, vr34, opS, fpS, okP, pack, nAl, allocA, shId, leaves, fillA, fillR, splice, Nat.reduceLT, Nat.reduceEqDiff, Nat.reduceLeDiff, Nat.reduceAdd, Nat.reduceSub, Nat.reduceMul, Int.reduceBEq, Int.reduceBNe, Int.reduceLT, Int.reduceLE, Int.reduceEq, reduceIte, reduceCtorEq, kn]
      simp
    · refine get_old ?_ _
      rw [Heap.get_set_self _ (by rw [kn]; exact lB)]
      rfl
    · refine hS.trans ((Stay.trans (?_ : Stay B K (kill K S)) (.set _ (Nat.le_refl _))).trans (.hx _ (by rw [Heap.next_set, kn]; omega)))
      exact ⟨hr.kill.1, fun j hj => hr.kill.2 j (by omega)⟩
    all_goals simp only [↓vp, vq0, vq1, vq2, vq3, vr0, vr1, vr2, vr3, vr4, vr5, vr6, vr7, vr8, vr9, vr10, vr11, vr12, vr13, vr14, vr15, vr16, vr17, vr18, vr19, vr20, vr21, vr22, vr23, vr24, vr25, vr26, vr27, vr28, vr29, vr30, vr31, vr32, vr33, vr34, opS, fpS, okP, pack, nAl, allocA, shId, leaves, fillA, fillR, splice, Nat.reduceLT, Nat.reduceEqDiff, Nat.reduceLeDiff, Nat.reduceAdd, Nat.reduceSub, Nat.reduceMul, Int.reduceBEq, Int.reduceBNe, Int.reduceLT, Int.reduceLE, Int.reduceEq, reduceIte, reduceCtorEq, da, int, boolA, h0, h1, h2, h8, h9, h10, h11, h12]
def leafN (c : List ItemM) (next : Int) : NamedM := ⟨next, ⟨true, c, []⟩⟩
def leafK (c : List ItemM) (next : Int) : KidM := ⟨(c[0]?.map (·.key)).getD [], next⟩
/-- Leaves of so many items, and their places. -/
def leavesM (items : List ItemM) (many : Nat) : Nat → Nat → Nat → List NamedM × List KidM
  | 0, _, _ => ([], [])
  | d + 1, at_, next => if at_ < items.length ∨ at_ = 0 then
      (leafN ((items.drop at_).take many) next :: (leavesM items many d (at_ + many) (next + 1)).1, leafK ((items.drop at_).take many) next :: (leavesM items many d (at_ + many) (next + 1)).2)
    else ([], [])
theorem rowSz_of {H : Heap} {id : Nat} {fz : Bool} {sz : Nat} {rs : List (List AV)} (h : H.get id = some (.row fz sz rs)) : rowSz H id = some sz := by unfold rowSz; rw [h]
theorem RepB.mono {B : Nat} {K K' : Heap} {sz : Nat} {S : AV} {rows : List (List AV)} (h : RepB B K sz S rows) (hk : ∀ id, B ≤ id → K.get id = some (.row false sz rows) → K'.get id = some (.row false sz rows)) : RepB B K' sz S rows := by
  rcases h with h | ⟨id, hb, h1, h2⟩
  · exact .inl h
  · exact .inr ⟨id, hb, h1, hk id hb h2⟩
theorem l26b (items : List ItemM) (hi : items.length ≤ 60) (many : Nat) (hm : 1 ≤ many ∧ many ≤ 20) (fan : Int) (R : List NamedM × List KidM) {Q : AExit → Env → Heap → Prop}
   (hex : ∀ f' K S8 S9, Rep K 4 S8 (R.1.map namedC) → Rep K 2 S9 (R.2.map kidC) → f' 2 = int fan → f' 8 = S8 → f' 9 = S9 → f' 10 = int (2 + R.1.length : Nat) → Q (.exit 0) (mkE 131 f') (hx K [])) :
   ∀ (d at_ : Nat) (acc : List NamedM) (kacc : List KidM) (S8 S9 : AV) (K : Heap) (f : Nat → AV), items.length + 1 ≤ at_ + d → at_ ≤ 100 → acc.length = kacc.length → acc.length ≤ 100 → acc.length + d ≤ 100 →
    R = (acc ++ (leavesM items many d at_ (2 + acc.length)).1, kacc ++ (leavesM items many d at_ (2 + acc.length)).2) → Rep K 4 S8 (acc.map namedC) → Rep K 2 S9 (kacc.map kidC) →
    f 0 = encI items → f 1 = int many → f 2 = int fan → f 8 = S8 → f 9 = S9 → f 10 = int (2 + acc.length : Nat) → f 11 = int at_ →
    AW ft (.loop c26L3) (mkE 131 f) (hx K []) Q := by
  intro d
  induction d with
  | zero =>
    intro at_ acc kacc S8 S9 K f hd ha hl hl2 hl3 hR h8 h9 q0 q1 q2 q8 q9 q10 q11
    have c1 : ((at_ : Int) < items.length) = False := eq_false (by omega)
    have c2 : ((at_ : Int) == 0) = false := by simp; omega
    rw [AW_loop]
    unfold c26L3
    simp only [leavesM, List.append_nil] at hR
    simp only [↓vp, vq0, vq1, vq2, vq3, vr0, vr1, vr2, vr3, vr4, vr5, vr6, vr7, vr8, vr9, vr10, vr11, vr12, vr13, vr14, vr15, vr16, vr17, vr18, vr19, vr20, vr21, vr22, vr23, vr24, vr25, vr26, vr27, vr28, vr29, vr30, vr31, vr32, vr33, vr34, opS, fpS, okP, pack, nAl, allocA, shId, leaves, fillA, fillR, splice, Nat.reduceLT, Nat.reduceEqDiff, Nat.reduceLeDiff, Nat.reduceAdd, Nat.reduceSub, Nat.reduceMul, Int.reduceBEq, Int.reduceBNe, Int.reduceLT, Int.reduceLE, Int.reduceEq, reduceIte, reduceCtorEq, da, int, boolA, q0, q11, c1, c2]
    refine hex _ K S8 S9 (by rw [hR]; exact h8) (by rw [hR]; exact h9) ?_ ?_ ?_ ?_ <;> simp only [↓vp, vq0, vq1, vq2, vq3, vr0, vr1, vr2, vr3, vr4, vr5, vr6, vr7, vr8, vr9, vr10, vr11, vr12, vr13, vr14, vr15, vr16, vr17, vr18, vr19, vr20, vr21, vr22, vr23, vr24, vr25, vr26, vr27, vr28, vr29, vr30, vr31, vr32, vr33, vr34, opS, fpS, okP, pack, nAl, allocA, shId, leaves, fillA, fillR, splice, Nat.reduceLT, Nat.reduceEqDiff, Nat.reduceLeDiff, Nat.reduceAdd, Nat.reduceSub, Nat.reduceMul, Int.reduceBEq, Int.reduceBNe, Int.reduceLT, Int.reduceLE, Int.reduceEq, reduceIte, reduceCtorEq, da, int, boolA, q2, q8, q9, q10, hR]
  | succ d ih =>
    intro at_ acc kacc S8 S9 K f hd ha hl hl2 hl3 hR h8 h9 q0 q1 q2 q8 q9 q10 q11
    by_cases hc : at_ < items.length ∨ at_ = 0
    · rw [leavesM, if_pos hc] at hR
      have hle : at_ ≤ items.length := by omega
      have w1 : IntKind.i64.wrap ((at_ : Int) + (many : Int)) = ((at_ + many : Nat) : Int) := by rw [wrap_i64 (by omega)]; rfl
      have w2 : IntKind.i64.wrap (((2 + acc.length : Nat) : Int) + 1) = ((2 + (acc.length + 1) : Nat) : Int) := by rw [wrap_i64 (by omega)]; omega
      have body : ∀ (f : Nat → AV), f 0 = encI items → f 1 = int many → f 2 = int fan → f 8 = S8 → f 9 = S9 → f 10 = int (2 + acc.length : Nat) → f 11 = int at_ → f 12 = .ptr K.next 0 0 → f 13 = int at_ →
          AW ft (.loop c26L0) (mkE 131 f) (hx (hx K [.box false [boolA true, .sc (.slice none 0 0), .sc (.slice none 0 0)]]) []) (blockA 2 (thenA (fun e H => AW ft c26R1 e H (blockA 1 (thenA (fun e H => AW ft c26R2 e H (thenA (fun e H => AW ft (.loop c26L3) e H Q) Q)) (thenA (fun e H => AW ft (.loop c26L3) e H Q) Q)))) (blockA 1 (thenA (fun e H => AW ft c26R2 e H (thenA (fun e H => AW ft (.loop c26L3) e H Q) Q)) (thenA (fun e H => AW ft (.loop c26L3) e H Q) Q))))) := by
        intro f q0 q1 q2 q8 q9 q10 q11 q12 q13
        have B0 : (hx K [.box false [boolA true, .sc (.slice none 0 0), .sc (.slice none 0 0)]]).get K.next = some (.box false [boolA true, .sc (.slice none 0 0), .sc (.slice none 0 0)]) := hx_get0 _ _
        have hmin : min items.length (at_ + many) = at_ + (min items.length (at_ + many) - at_) := by omega
        refine l26a items (by omega) many at_ K.next (by omega) (by omega) hle fan (hx K [.box false [boolA true, .sc (.slice none 0 0), .sc (.slice none 0 0)]]) S8 S9 (int (2 + acc.length : Nat)) (fun f' K1 S hS gB hst p0 p1 p2 p8 p9 p10 p11 p12 => ?_)
          (min items.length (at_ + many) - at_) at_ (.sc (.slice none 0 0)) _ f (by omega) (Nat.le_refl _) (.inl ⟨rfl, by simp⟩) B0 .rfl' q0 q1 q2 q8 q9 q10 q11 q12 q13
        have hc100 : ((items.drop at_).take many).length ≤ 100 := by simp; omega
        have r8 : Rep K1 4 S8 (acc.map namedC) := h8.mono fun id h => by rw [hst.2 id (Heap.get_lt h)]; exact get_old h _
        have r9 : Rep K1 2 S9 (kacc.map kidC) := h9.mono fun id h => by rw [hst.2 id (Heap.get_lt h)]; exact get_old h _
        have l8 : ∀ id len, S8 = .sl id 0 len → id < K.next := fun id len e => by
          rcases h8 with ⟨h, _⟩ | ⟨id', h, h'⟩
          · rw [h] at e; cases e
          · rw [h] at e
            cases e
            exact Heap.get_lt h'
        generalize (items.drop at_).take many = c at *
        have lB := Heap.get_lt gB
        have oB := get_old gB
        have step : ∀ (f : Nat → AV) (K2 : Heap) (L : List Blk) (i j : Nat), (hx K2 L).get i = some (.row false 4 ((acc ++ [leafN c (2 + acc.length : Nat)]).map namedC)) → (hx K2 L).get j = some (.row false 2 ((kacc ++ [leafK c (2 + acc.length : Nat)]).map kidC)) →
            f 0 = encI items → f 1 = int many → f 2 = int fan → f 8 = .sl i 0 (acc.length + 1) → f 9 = .sl j 0 (kacc.length + 1) → f 10 = int (2 + (acc.length + 1) : Nat) → f 11 = int (at_ + many : Nat) →
            AW ft (.loop c26L3) (mkE 131 f) (hx K2 L) Q := fun f K2 L i j gi gj z0 z1 z2 z8 z9 z10 z11 => by
          rw [← hx_nil (hx K2 L)]
          refine ih (at_ + many) (acc ++ [leafN c (2 + acc.length : Nat)]) (kacc ++ [leafK c (2 + acc.length : Nat)]) _ _ (hx K2 L) f ?_ (by omega) (by simp; omega) (by simp; omega) (by simp; omega) ?_ (.inr ⟨i, ?_, gi⟩) (.inr ⟨j, ?_, gj⟩) z0 z1 z2 z8 z9 ?_ z11
          · omega
          · rw [hR]
            simp [List.append_assoc, Nat.add_assoc]
          · simp
          · simp
          · simpa using z10
        have hb8 : (acc.length + 1) * 64 ≤ 140737488355328 := by omega
        have hb9 : (kacc.length + 1) * 32 ≤ 140737488355328 := by omega
        unfold c26R1 c26R2
        rcases hS with ⟨rfl, hcn⟩ | ⟨id, hid, rfl, gid⟩
        · have hc0 : c = [] := by simpa using hcn
          subst hc0
          have ap8 := fun nid L => appA_rep (nid := nid) (bytes := 64) r8 (xs := [namedC (leafN [] (2 + acc.length : Nat))]) (by simp) rfl (by simpa using hb8) L
          have k8 := kill_next K1 S8
          have r9' : Rep (kill K1 S8) 2 S9 (kacc.map kidC) := r9.mono fun j h => kill_get r8 h fun r e => by cases e
          have ap9 := fun nid L => appA_rep (nid := nid) (bytes := 32) r9' (xs := [kidC (leafK [] (2 + acc.length : Nat))]) (by simp) rfl (by simpa using hb9) L
          have k9 : (kill (kill K1 S8) S9).next = K1.next := by rw [kill_next, kill_next]
          simp only [leafN, leafK, namedC, nodeC, kidC, encI, encK, List.map_nil, List.getElem?_nil, Option.map_none, Option.getD_none, encB, int, boolA] at ap8 ap9
          simp only [↓vp, vq0, vq1, vq2, vq3, vr0, vr1, vr2, vr3, vr4, vr5, vr6, vr7, vr8, vr9, vr10, vr11, vr12, vr13, vr14, vr15, vr16, vr17, vr18, vr19, vr20, vr21, vr22, vr23, vr24, vr25, vr26, vr27, vr28, vr29, vr30, vr31, vr32, vr33, vr34, opS, fpS, okP, pack, nAl, allocA, shId, leaves, fillA, fillR, splice, Nat.reduceLT, Nat.reduceEqDiff, Nat.reduceLeDiff, Nat.reduceAdd, Nat.reduceSub, Nat.reduceMul, Int.reduceBEq, Int.reduceBNe, Int.reduceLT, Int.reduceLE, Int.reduceEq, reduceIte, reduceCtorEq, da, int, boolA, p0, p1, p2, p8, p9, p10, p11, p12, oB, ap8, k8, ap9, k9, w1, w2]
          refine step _ _ _ (K1.next + 2) (K1.next + 4) ?_ ?_ ?_ ?_ ?_ ?_ ?_ ?_ ?_
          · simp only [↓vp, vq0, vq1, vq2, vq3, vr0, vr1, vr2, vr3, vr4, vr5, vr6, vr7, vr8, vr9, vr10, vr11, vr12, vr13, vr14, vr15, vr16, vr17, vr18, vr19, vr20, vr21, vr22, vr23, vr24, vr25, vr26, vr27, vr28, vr29, vr30, vr31, vr32, vr33, vr34, opS, fpS, okP, pack, nAl, allocA, shId, leaves, fillA, fillR, splice, Nat.reduceLT, Nat.reduceEqDiff, Nat.reduceLeDiff, Nat.reduceAdd, Nat.reduceSub, Nat.reduceMul, Int.reduceBEq, Int.reduceBNe, Int.reduceLT, Int.reduceLE, Int.reduceEq, reduceIte, reduceCtorEq, k9, List.map_append]
            rfl
          · simp only [↓vp, vq0, vq1, vq2, vq3, vr0, vr1, vr2, vr3, vr4, vr5, vr6, vr7, vr8, vr9, vr10, vr11, vr12, vr13, vr14, vr15, vr16, vr17, vr18, vr19, vr20, vr21, vr22, vr23, vr24, vr25, vr26, vr27, vr28, vr29, vr30, vr31, vr32, vr33, vr34, opS, fpS, okP, pack, nAl, allocA, shId, leaves, fillA, fillR, splice, Nat.reduceLT, Nat.reduceEqDiff, Nat.reduceLeDiff, Nat.reduceAdd, Nat.reduceSub, Nat.reduceMul, Int.reduceBEq, Int.reduceBNe, Int.reduceLT, Int.reduceLE, Int.reduceEq, reduceIte, reduceCtorEq, k9, List.map_append]
            rfl
          all_goals simp only [↓vp, vq0, vq1, vq2, vq3, vr0, vr1, vr2, vr3, vr4, vr5, vr6, vr7, vr8, vr9, vr10, vr11, vr12, vr13, vr14, vr15, vr16, vr17, vr18, vr19, vr20, vr21, vr22, vr23, vr24, vr25, vr26, vr27, vr28, vr29, vr30, vr31, vr32, vr33, vr34, opS, fpS, okP, pack, nAl, allocA, shId, leaves, fillA, fillR, splice, Nat.reduceLT, Nat.reduceEqDiff, Nat.reduceLeDiff, Nat.reduceAdd, Nat.reduceSub, Nat.reduceMul, Int.reduceBEq, Int.reduceBNe, Int.reduceLT, Int.reduceLE, Int.reduceEq, reduceIte, reduceCtorEq, da, int, boolA, p0, p1, p2]
        · have gid' := get_old gid
          have lid := Heap.get_lt gid
          obtain ⟨K2, hK2⟩ : ∃ K2, K2 = K1.set id (.row true 4 (c.map itemC)) := ⟨_, rfl⟩
          have n2 : K2.next = K1.next := by rw [hK2, Heap.next_set]
          have sid : ∀ L, (hx K1 L).set id (.row true 4 (c.map itemC)) = hx K2 L := fun L => by rw [hK2, hx_set_old _ _ _ _ lid]
          have ne8 : ∀ j len, S8 = .sl j 0 len → j ≠ id := fun j len e h => by have := l8 j len e; omega
          have r8 : Rep K2 4 S8 (acc.map namedC) := by
            rcases r8 with h | ⟨j, h, h'⟩
            · exact .inl h
            · exact .inr ⟨j, h, by rw [hK2, Heap.get_set_ne _ (ne8 j _ h), h']⟩
          have r9 : Rep K2 2 S9 (kacc.map kidC) := r9.mono fun j h => by rw [hK2, Heap.get_set_ne _ (fun e => by rw [e, gid] at h; cases h), h]
          have gB2 : K2.get K.next = some (.box false [boolA true, .sl id 0 (c.map itemC).length, .sc (.slice none 0 0)]) := by rw [hK2, Heap.get_set_ne _ (by omega), gB]
          have oB2 := get_old gB2
          have ap8 := fun nid L => appA_rep (nid := nid) (bytes := 64) r8 (xs := [namedC (leafN c (2 + acc.length : Nat))]) (by simp) rfl (by simpa using hb8) L
          have k8 := kill_next K2 S8
          have r9' : Rep (kill K2 S8) 2 S9 (kacc.map kidC) := r9.mono fun j h => kill_get r8 h fun r e => by cases e
          have ap9 := fun nid L => appA_rep (nid := nid) (bytes := 32) r9' (xs := [kidC (leafK c (2 + acc.length : Nat))]) (by simp) rfl (by simpa using hb9) L
          have k9 : (kill (kill K2 S8) S9).next = K1.next := by rw [kill_next, kill_next, n2]
          have tk : (c.map itemC).take c.length = c.map itemC := List.take_of_length_le (by simp)
          simp only [leafN, leafK, namedC, nodeC, kidC, encI, encK, List.map_nil, int, boolA] at ap8 ap9
          simp only [int, boolA, List.length_map] at oB
          clear hK2
          cases c with
          | nil =>
            simp only [List.getElem?_nil, Option.map_none, Option.getD_none, encB, List.map_nil] at ap8 ap9 gid' sid tk
            simp only [↓vp, vq0, vq1, vq2, vq3, vr0, vr1, vr2, vr3, vr4, vr5, vr6, vr7, vr8, vr9, vr10, vr11, vr12, vr13, vr14, vr15, vr16, vr17, vr18, vr19, vr20, vr21, vr22, vr23, vr24, vr25, vr26, vr27, vr28, vr29, vr30, vr31, vr32, vr33, vr34, opS, fpS, okP, pack, nAl, allocA, shId, leaves, fillA, fillR, splice, Nat.reduceLT, Nat.reduceEqDiff, Nat.reduceLeDiff, Nat.reduceAdd, Nat.reduceSub, Nat.reduceMul, Int.reduceBEq, Int.reduceBNe, Int.reduceLT, Int.reduceLE, Int.reduceEq, reduceIte, reduceCtorEq, da, int, boolA, p0, p1, p2, p8, p9, p10, p11, p12, oB, gid', sid, n2, ap8, k8, ap9, k9, w1, w2, ias, rsz]
            refine step _ _ _ (K1.next + 2) (K1.next + 4) ?_ ?_ ?_ ?_ ?_ ?_ ?_ ?_ ?_
            · simp only [↓vp, vq0, vq1, vq2, vq3, vr0, vr1, vr2, vr3, vr4, vr5, vr6, vr7, vr8, vr9, vr10, vr11, vr12, vr13, vr14, vr15, vr16, vr17, vr18, vr19, vr20, vr21, vr22, vr23, vr24, vr25, vr26, vr27, vr28, vr29, vr30, vr31, vr32, vr33, vr34, opS, fpS, okP, pack, nAl, allocA, shId, leaves, fillA, fillR, splice, Nat.reduceLT, Nat.reduceEqDiff, Nat.reduceLeDiff, Nat.reduceAdd, Nat.reduceSub, Nat.reduceMul, Int.reduceBEq, Int.reduceBNe, Int.reduceLT, Int.reduceLE, Int.reduceEq, reduceIte, reduceCtorEq, k9, List.map_append]
              rfl
            · simp only [↓vp, vq0, vq1, vq2, vq3, vr0, vr1, vr2, vr3, vr4, vr5, vr6, vr7, vr8, vr9, vr10, vr11, vr12, vr13, vr14, vr15, vr16, vr17, vr18, vr19, vr20, vr21, vr22, vr23, vr24, vr25, vr26, vr27, vr28, vr29, vr30, vr31, vr32, vr33, vr34, opS, fpS, okP, pack, nAl, allocA, shId, leaves, fillA, fillR, splice, Nat.reduceLT, Nat.reduceEqDiff, Nat.reduceLeDiff, Nat.reduceAdd, Nat.reduceSub, Nat.reduceMul, Int.reduceBEq, Int.reduceBNe, Int.reduceLT, Int.reduceLE, Int.reduceEq, reduceIte, reduceCtorEq, k9, List.map_append]
              rfl
            all_goals simp only [↓vp, vq0, vq1, vq2, vq3, vr0, vr1, vr2, vr3, vr4, vr5, vr6, vr7, vr8, vr9, vr10, vr11, vr12, vr13, vr14, vr15, vr16, vr17, vr18, vr19, vr20, vr21, vr22, vr23, vr24, vr25, vr26, vr27, vr28, vr29, vr30, vr31, vr32, vr33, vr34, opS, fpS, okP, pack, nAl, allocA, shId, leaves, fillA, fillR, splice, Nat.reduceLT, Nat.reduceEqDiff, Nat.reduceLeDiff, Nat.reduceAdd, Nat.reduceSub, Nat.reduceMul, Int.reduceBEq, Int.reduceBNe, Int.reduceLT, Int.reduceLE, Int.reduceEq, reduceIte, reduceCtorEq, da, int, boolA, p0, p1, p2]
          | cons x c =>
            have cp : ((0 : Int) < ((c.length + 1 : Nat) : Int)) = True := eq_true (by omega)
            have cp2 : 0 < c.length + 1 := by omega
            simp only [List.getElem?_cons_zero, Option.map_some, Option.getD_some, List.length_cons, List.map_cons] at ap8 ap9 gid' sid tk oB
            simp only [↓vp, vq0, vq1, vq2, vq3, vr0, vr1, vr2, vr3, vr4, vr5, vr6, vr7, vr8, vr9, vr10, vr11, vr12, vr13, vr14, vr15, vr16, vr17, vr18, vr19, vr20, vr21, vr22, vr23, vr24, vr25, vr26, vr27, vr28, vr29, vr30, vr31, vr32, vr33, vr34, opS, fpS, okP, pack, nAl, allocA, shId, leaves, fillA, fillR, splice, Nat.reduceLT, Nat.reduceEqDiff, Nat.reduceLeDiff, Nat.reduceAdd, Nat.reduceSub, Nat.reduceMul, Int.reduceBEq, Int.reduceBNe, Int.reduceLT, Int.reduceLE, Int.reduceEq, reduceIte, reduceCtorEq, da, int, boolA, p0, p1, p2, p8, p9, p10, p11, p12, oB, gid', sid, n2, ap8, k8, ap9, k9, w1, w2, ias, rsz, cp, Int.toNat_zero, tk]
            refine step _ _ _ (K1.next + 2) (K1.next + 4) ?_ ?_ ?_ ?_ ?_ ?_ ?_ ?_ ?_
            · simp only [↓vp, vq0, vq1, vq2, vq3, vr0, vr1, vr2, vr3, vr4, vr5, vr6, vr7, vr8, vr9, vr10, vr11, vr12, vr13, vr14, vr15, vr16, vr17, vr18, vr19, vr20, vr21, vr22, vr23, vr24, vr25, vr26, vr27, vr28, vr29, vr30, vr31, vr32, vr33, vr34, opS, fpS, okP, pack, nAl, allocA, shId, leaves, fillA, fillR, splice, Nat.reduceLT, Nat.reduceEqDiff, Nat.reduceLeDiff, Nat.reduceAdd, Nat.reduceSub, Nat.reduceMul, Int.reduceBEq, Int.reduceBNe, Int.reduceLT, Int.reduceLE, Int.reduceEq, reduceIte, reduceCtorEq, k9, List.map_append]
              rfl
            · simp only [↓vp, vq0, vq1, vq2, vq3, vr0, vr1, vr2, vr3, vr4, vr5, vr6, vr7, vr8, vr9, vr10, vr11, vr12, vr13, vr14, vr15, vr16, vr17, vr18, vr19, vr20, vr21, vr22, vr23, vr24, vr25, vr26, vr27, vr28, vr29, vr30, vr31, vr32, vr33, vr34, opS, fpS, okP, pack, nAl, allocA, shId, leaves, fillA, fillR, splice, Nat.reduceLT, Nat.reduceEqDiff, Nat.reduceLeDiff, Nat.reduceAdd, Nat.reduceSub, Nat.reduceMul, Int.reduceBEq, Int.reduceBNe, Int.reduceLT, Int.reduceLE, Int.reduceEq, reduceIte, reduceCtorEq, k9, List.map_append]
              rfl
            all_goals simp only [↓vp, vq0, vq1, vq2, vq3, vr0, vr1, vr2, vr3, vr4, vr5, vr6, vr7, vr8, vr9, vr10, vr11, vr12, vr13, vr14, vr15, vr16, vr17, vr18, vr19, vr20, vr21, vr22, vr23, vr24, vr25, vr26, vr27, vr28, vr29, vr30, vr31, vr32, vr33, vr34, opS, fpS, okP, pack, nAl, allocA, shId, leaves, fillA, fillR, splice, Nat.reduceLT, Nat.reduceEqDiff, Nat.reduceLeDiff, Nat.reduceAdd, Nat.reduceSub, Nat.reduceMul, Int.reduceBEq, Int.reduceBNe, Int.reduceLT, Int.reduceLE, Int.reduceEq, reduceIte, reduceCtorEq, da, int, boolA, p0, p1, p2]
      rw [AW_loop]
      unfold c26L3
      by_cases c1 : (at_ : Int) < items.length
      · simp only [↓vp, vq0, vq1, vq2, vq3, vr0, vr1, vr2, vr3, vr4, vr5, vr6, vr7, vr8, vr9, vr10, vr11, vr12, vr13, vr14, vr15, vr16, vr17, vr18, vr19, vr20, vr21, vr22, vr23, vr24, vr25, vr26, vr27, vr28, vr29, vr30, vr31, vr32, vr33, vr34, opS, fpS, okP, pack, nAl, allocA, shId, leaves, fillA, fillR, splice, Nat.reduceLT, Nat.reduceEqDiff, Nat.reduceLeDiff, Nat.reduceAdd, Nat.reduceSub, Nat.reduceMul, Int.reduceBEq, Int.reduceBNe, Int.reduceLT, Int.reduceLE, Int.reduceEq, reduceIte, reduceCtorEq, da, int, boolA, q0, q11, c1]
        rw [← hx_nil (hx K _)]
        refine body _ ?_ ?_ ?_ ?_ ?_ ?_ ?_ ?_ ?_ <;> simp only [↓vp, vq0, vq1, vq2, vq3, vr0, vr1, vr2, vr3, vr4, vr5, vr6, vr7, vr8, vr9, vr10, vr11, vr12, vr13, vr14, vr15, vr16, vr17, vr18, vr19, vr20, vr21, vr22, vr23, vr24, vr25, vr26, vr27, vr28, vr29, vr30, vr31, vr32, vr33, vr34, opS, fpS, okP, pack, nAl, allocA, shId, leaves, fillA, fillR, splice, Nat.reduceLT, Nat.reduceEqDiff, Nat.reduceLeDiff, Nat.reduceAdd, Nat.reduceSub, Nat.reduceMul, Int.reduceBEq, Int.reduceBNe, Int.reduceLT, Int.reduceLE, Int.reduceEq, reduceIte, reduceCtorEq, da, int, boolA, q0, q1, q2, q8, q9, q10, q11]
      · have c2 : ((at_ : Int) == 0) = true := by simp; omega
        simp only [↓vp, vq0, vq1, vq2, vq3, vr0, vr1, vr2, vr3, vr4, vr5, vr6, vr7, vr8, vr9, vr10, vr11, vr12, vr13, vr14, vr15, vr16, vr17, vr18, vr19, vr20, vr21, vr22, vr23, vr24, vr25, vr26, vr27, vr28, vr29, vr30, vr31, vr32, vr33, vr34, opS, fpS, okP, pack, nAl, allocA, shId, leaves, fillA, fillR, splice, Nat.reduceLT, Nat.reduceEqDiff, Nat.reduceLeDiff, Nat.reduceAdd, Nat.reduceSub, Nat.reduceMul, Int.reduceBEq, Int.reduceBNe, Int.reduceLT, Int.reduceLE, Int.reduceEq, reduceIte, reduceCtorEq, da, int, boolA, q0, q11, c1, c2]
        rw [← hx_nil (hx K _)]
        refine body _ ?_ ?_ ?_ ?_ ?_ ?_ ?_ ?_ ?_ <;> simp only [↓vp, vq0, vq1, vq2, vq3, vr0, vr1, vr2, vr3, vr4, vr5, vr6, vr7, vr8, vr9, vr10, vr11, vr12, vr13, vr14, vr15, vr16, vr17, vr18, vr19, vr20, vr21, vr22, vr23, vr24, vr25, vr26, vr27, vr28, vr29, vr30, vr31, vr32, vr33, vr34, opS, fpS, okP, pack, nAl, allocA, shId, leaves, fillA, fillR, splice, Nat.reduceLT, Nat.reduceEqDiff, Nat.reduceLeDiff, Nat.reduceAdd, Nat.reduceSub, Nat.reduceMul, Int.reduceBEq, Int.reduceBNe, Int.reduceLT, Int.reduceLE, Int.reduceEq, reduceIte, reduceCtorEq, da, int, boolA, q0, q1, q2, q8, q9, q10, q11]
    · have c1 : ((at_ : Int) < items.length) = False := eq_false (by omega)
      have c2 : ((at_ : Int) == 0) = false := by simp; omega
      rw [leavesM, if_neg hc, List.append_nil, List.append_nil] at hR
      rw [AW_loop]
      unfold c26L3
      simp only [↓vp, vq0, vq1, vq2, vq3, vr0, vr1, vr2, vr3, vr4, vr5, vr6, vr7, vr8, vr9, vr10, vr11, vr12, vr13, vr14, vr15, vr16, vr17, vr18, vr19, vr20, vr21, vr22, vr23, vr24, vr25, vr26, vr27, vr28, vr29, vr30, vr31, vr32, vr33, vr34, opS, fpS, okP, pack, nAl, allocA, shId, leaves, fillA, fillR, splice, Nat.reduceLT, Nat.reduceEqDiff, Nat.reduceLeDiff, Nat.reduceAdd, Nat.reduceSub, Nat.reduceMul, Int.reduceBEq, Int.reduceBNe, Int.reduceLT, Int.reduceLE, Int.reduceEq, reduceIte, reduceCtorEq, da, int, boolA, q0, q11, c1, c2]
      refine hex _ K S8 S9 (by rw [hR]; exact h8) (by rw [hR]; exact h9) ?_ ?_ ?_ ?_ <;> simp only [↓vp, vq0, vq1, vq2, vq3, vr0, vr1, vr2, vr3, vr4, vr5, vr6, vr7, vr8, vr9, vr10, vr11, vr12, vr13, vr14, vr15, vr16, vr17, vr18, vr19, vr20, vr21, vr22, vr23, vr24, vr25, vr26, vr27, vr28, vr29, vr30, vr31, vr32, vr33, vr34, opS, fpS, okP, pack, nAl, allocA, shId, leaves, fillA, fillR, splice, Nat.reduceLT, Nat.reduceEqDiff, Nat.reduceLeDiff, Nat.reduceAdd, Nat.reduceSub, Nat.reduceMul, Int.reduceBEq, Int.reduceBNe, Int.reduceLT, Int.reduceLE, Int.reduceEq, reduceIte, reduceCtorEq, da, int, boolA, q2, q8, q9, q10, hR]
def clearK (g : List KidM) : List KidM := match g with
  | [] => []
  | x :: g => ⟨[], x.ref⟩ :: g
def cutTo (n at_ fan : Nat) : Nat := if n ≤ at_ + fan + 1 then n else at_ + fan
def brN (g : List KidM) (next : Int) : NamedM := ⟨next, ⟨false, [], clearK g⟩⟩
def brK (g : List KidM) (next : Int) : KidM := ⟨(g[0]?.map (·.key)).getD [], next⟩
/-- A level of branches. -/
def levelM (kids : List KidM) (fan : Nat) : Nat → Nat → Nat → List NamedM × List KidM
  | 0, _, _ => ([], [])
  | d + 1, at_, next => if at_ < kids.length then
      (brN ((kids.drop at_).take (cutTo kids.length at_ fan - at_)) next :: (levelM kids fan d (cutTo kids.length at_ fan) (next + 1)).1, brK ((kids.drop at_).take (cutTo kids.length at_ fan - at_)) next :: (levelM kids fan d (cutTo kids.length at_ fan) (next + 1)).2)
    else ([], [])
/-- Level by level, till one is left. -/
def upM (fan : Nat) : Nat → List KidM → Nat → List NamedM × Int
  | 0, kids, _ => ([], (kids[0]?.map (·.ref)).getD 0)
  | d + 1, kids, next => if 1 < kids.length then
      ((levelM kids fan kids.length 0 next).1 ++ (upM fan d (levelM kids fan kids.length 0 next).2 (next + (levelM kids fan kids.length 0 next).1.length)).1, (upM fan d (levelM kids fan kids.length 0 next).2 (next + (levelM kids fan kids.length 0 next).1.length)).2)
    else ([], (kids[0]?.map (·.ref)).getD 0)
def madeM (items : List ItemM) (many fan : Nat) : List NamedM × Int :=
  ((leavesM items many (items.length + 1) 0 2).1 ++ (upM fan 100 (leavesM items many (items.length + 1) 0 2).2 (2 + (leavesM items many (items.length + 1) 0 2).1.length)).1,
    (upM fan 100 (leavesM items many (items.length + 1) 0 2).2 (2 + (leavesM items many (items.length + 1) 0 2).1.length)).2)
end Go.VI
