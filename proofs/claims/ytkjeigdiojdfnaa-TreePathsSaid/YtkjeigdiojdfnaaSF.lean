/- VI, part SF: the program's Side; the ways' choices; the source. -/
import Derived.Test.YtkjeigdiojdfnaaSE
set_option linter.unusedVariables false
set_option linter.unusedSimpArgs false
set_option maxRecDepth 100000
namespace Go.VI
attribute [local congr] AW_congr OW_congr DW_congr NW_congr VW_congr GW_congr PW_congr KW_congr ite_congr' GV_congr CV_congr

def sideD (l : List KidM) (key : Bytes) : Nat → Nat
  | 0 => 0
  | k + 1 => if 0 < cmpB ((l[k + 1]?).elim [] (·.key)) key then sideD l key k else k + 1
def sideP (l : List KidM) (key : Bytes) : Nat := sideD l key (l.length - 1)
theorem wrap_pred {i : Nat} (h : i < 9223372036854775807) : IntKind.i64.wrap (((i + 1 : Nat) : Int) - 1) = (i : Int) := by
  rw [wrap_i64 (by omega)]; omega
theorem l44 (n : NodeM) (key : Bytes) (hn : okN n) (hk : okB key) {L : List Blk} {Q : AExit → Env → Heap → Prop} (hL : L[0]? = some (.box false (nodeC n)))
   (hex : ∀ f', f' 5 = int (sideP n.kids key) → Q (.exit 0) (mkE 27 f') (hx Heap.empty L)) :
   ∀ (k : Nat) (f : Nat → AV), k < n.kids.length → sideP n.kids key = sideD n.kids key k → f 1 = encB key → f 2 = .ptr 0 0 0 → f 5 = int k →
    AW ft (.loop c44L0) (mkE 27 f) (hx Heap.empty L) Q := by
  intro k
  have hi := hn.k.n
  unfold MX at hi
  induction k with
  | zero =>
    intro f hd hc h1 h2 h5
    rw [AW_loop]
    unfold c44L0
    have g : ((0 : Int) < ((0 : Nat) : Int)) = False := by simp
    simp only [↓vp, vq0, vq1, vq2, vq3, vr0, vr1, vr2, vr3, vr4, vr5, vr6, vr7, vr8, vr9, vr10, vr11, vr12, vr13, vr14, vr15, vr16, vr17, vr18, vr19, vr20, vr21, vr22, vr23, vr24, vr25, vr26, vr27, vr28, vr29, vr30, vr31, vr32, vr33, vr34, opS, fpS, okP, pack, nAl, allocA, shId, leaves, fillA, fillR, splice, Nat.reduceLT, Nat.reduceEqDiff, Nat.reduceLeDiff, Nat.reduceAdd, Nat.reduceSub, Nat.reduceMul, Int.reduceBEq, Int.reduceBNe, Int.reduceLT, Int.reduceLE, Int.reduceEq, reduceIte, reduceCtorEq, da, int, boolA, hL, h1, h2, h5, g]
    refine hex _ ?_
    simp only [↓vp, vq0, vq1, vq2, vq3, vr0, vr1, vr2, vr3, vr4, vr5, vr6, vr7, vr8, vr9, vr10, vr11, vr12, vr13, vr14, vr15, vr16, vr17, vr18, vr19, vr20, vr21, vr22, vr23, vr24, vr25, vr26, vr27, vr28, vr29, vr30, vr31, vr32, vr33, vr34, opS, fpS, okP, pack, nAl, allocA, shId, leaves, fillA, fillR, splice, Nat.reduceLT, Nat.reduceEqDiff, Nat.reduceLeDiff, Nat.reduceAdd, Nat.reduceSub, Nat.reduceMul, Int.reduceBEq, Int.reduceBNe, Int.reduceLT, Int.reduceLE, Int.reduceEq, reduceIte, reduceCtorEq, da, int, boolA, h5, hc, sideD]
  | succ k ih =>
    intro f hd hc h1 h2 h5
    have g : ((0 : Int) < ((k + 1 : Nat) : Int)) = True := eq_true (by omega)
    have hkey := hn.k.at_ hd
    have w1 := wrap_pred (show k < 9223372036854775807 by omega)
    rw [sideD, List.getElem?_eq_getElem hd, Option.elim_some] at hc
    rw [AW_loop]
    unfold c44L0
    by_cases e1 : 0 < cmpB n.kids[k + 1].key key
    · rw [if_pos e1] at hc
      simp only [↓vp, vq0, vq1, vq2, vq3, vr0, vr1, vr2, vr3, vr4, vr5, vr6, vr7, vr8, vr9, vr10, vr11, vr12, vr13, vr14, vr15, vr16, vr17, vr18, vr19, vr20, vr21, vr22, vr23, vr24, vr25, vr26, vr27, vr28, vr29, vr30, vr31, vr32, vr33, vr34, opS, fpS, okP, pack, nAl, allocA, shId, leaves, fillA, fillR, splice, Nat.reduceLT, Nat.reduceEqDiff, Nat.reduceLeDiff, Nat.reduceAdd, Nat.reduceSub, Nat.reduceMul, Int.reduceBEq, Int.reduceBNe, Int.reduceLT, Int.reduceLE, Int.reduceEq, reduceIte, reduceCtorEq, da, int, boolA, hL, h1, h2, h5, g, atK hd, cK hd, k40, hkey, hk, e1, w1]
      refine ih _ (by omega) hc ?_ ?_ ?_ <;> simp only [↓vp, vq0, vq1, vq2, vq3, vr0, vr1, vr2, vr3, vr4, vr5, vr6, vr7, vr8, vr9, vr10, vr11, vr12, vr13, vr14, vr15, vr16, vr17, vr18, vr19, vr20, vr21, vr22, vr23, vr24, vr25, vr26, vr27, vr28, vr29, vr30, vr31, vr32, vr33, vr34, opS, fpS, okP, pack, nAl, allocA, shId, leaves, fillA, fillR, splice, Nat.reduceLT, Nat.reduceEqDiff, Nat.reduceLeDiff, Nat.reduceAdd, Nat.reduceSub, Nat.reduceMul, Int.reduceBEq, Int.reduceBNe, Int.reduceLT, Int.reduceLE, Int.reduceEq, reduceIte, reduceCtorEq, da, int, boolA, h1, h2, h5]
    · rw [if_neg e1] at hc
      simp only [↓vp, vq0, vq1, vq2, vq3, vr0, vr1, vr2, vr3, vr4, vr5, vr6, vr7, vr8, vr9, vr10, vr11, vr12, vr13, vr14, vr15, vr16, vr17, vr18, vr19, vr20, vr21, vr22, vr23, vr24, vr25, vr26, vr27, vr28, vr29, vr30, vr31, vr32, vr33, vr34, opS, fpS, okP, pack, nAl, allocA, shId, leaves, fillA, fillR, splice, Nat.reduceLT, Nat.reduceEqDiff, Nat.reduceLeDiff, Nat.reduceAdd, Nat.reduceSub, Nat.reduceMul, Int.reduceBEq, Int.reduceBNe, Int.reduceLT, Int.reduceLE, Int.reduceEq, reduceIte, reduceCtorEq, da, int, boolA, hL, h1, h2, h5, g, atK hd, cK hd, k40, hkey, hk, e1, w1]
      refine hex _ ?_
      simp only [↓vp, vq0, vq1, vq2, vq3, vr0, vr1, vr2, vr3, vr4, vr5, vr6, vr7, vr8, vr9, vr10, vr11, vr12, vr13, vr14, vr15, vr16, vr17, vr18, vr19, vr20, vr21, vr22, vr23, vr24, vr25, vr26, vr27, vr28, vr29, vr30, vr31, vr32, vr33, vr34, opS, fpS, okP, pack, nAl, allocA, shId, leaves, fillA, fillR, splice, Nat.reduceLT, Nat.reduceEqDiff, Nat.reduceLeDiff, Nat.reduceAdd, Nat.reduceSub, Nat.reduceMul, Int.reduceBEq, Int.reduceBNe, Int.reduceLT, Int.reduceLE, Int.reduceEq, reduceIte, reduceCtorEq, da, int, boolA, h5, hc]
theorem s44 (n : NodeM) (key : Bytes) (hn : okN n) (hk : okB key) (H : Heap) : callL ft (.fn (.func 44) [] []) [.agg (nodeC n), encB key] H = some (int (sideP n.kids key), H) := by
  refine call_p (as' := [.agg (nodeC n), encB key]) rfl rfl (by simp) ?_
  have hi := hn.k.n
  unfold MX at hi
  unfold c44 r44
  simp only [↓vp, vq0, vq1, vq2, vq3, vr0, vr1, vr2, vr3, vr4, vr5, vr6, vr7, vr8, vr9, vr10, vr11, vr12, vr13, vr14, vr15, vr16, vr17, vr18, vr19, vr20, vr21, vr22, vr23, vr24, vr25, vr26, vr27, vr28, vr29, vr30, vr31, vr32, vr33, vr34, opS, fpS, okP, pack, nAl, allocA, shId, leaves, fillA, fillR, splice, Nat.reduceLT, Nat.reduceEqDiff, Nat.reduceLeDiff, Nat.reduceAdd, Nat.reduceSub, Nat.reduceMul, Int.reduceBEq, Int.reduceBNe, Int.reduceLT, Int.reduceLE, Int.reduceEq, reduceIte, reduceCtorEq, da, int, boolA]
  by_cases h0 : n.kids.length = 0
  · have w0 : IntKind.i64.wrap ((n.kids.length : Int) - 1) = -1 := by rw [wrap_i64 (by omega)]; omega
    have g : ((0 : Int) < -1) = False := by simp
    rw [AW_loop, w0]
    unfold c44L0 c44R1
    have hs : sideP n.kids key = 0 := by rw [sideP, h0]; rfl
    simp only [↓vp, vq0, vq1, vq2, vq3, vr0, vr1, vr2, vr3, vr4, vr5, vr6, vr7, vr8, vr9, vr10, vr11, vr12, vr13, vr14, vr15, vr16, vr17, vr18, vr19, vr20, vr21, vr22, vr23, vr24, vr25, vr26, vr27, vr28, vr29, vr30, vr31, vr32, vr33, vr34, opS, fpS, okP, pack, nAl, allocA, shId, leaves, fillA, fillR, splice, Nat.reduceLT, Nat.reduceEqDiff, Nat.reduceLeDiff, Nat.reduceAdd, Nat.reduceSub, Nat.reduceMul, Int.reduceBEq, Int.reduceBNe, Int.reduceLT, Int.reduceLE, Int.reduceEq, reduceIte, reduceCtorEq, da, int, boolA, RetP_go, resT, resC, resN, retV1, retV2, retV3, retV0, frzFZ, takeM, Option.some.injEq, g]
    rw [hs]; rfl
  · refine l44 n key hn hk rfl (fun f' h5 => ?_) (n.kids.length - 1) _ (by omega) rfl ?_ ?_ ?_
    · unfold c44R1
      have g : ((sideP n.kids key : Int) < 0) = False := by simp
      simp only [↓vp, vq0, vq1, vq2, vq3, vr0, vr1, vr2, vr3, vr4, vr5, vr6, vr7, vr8, vr9, vr10, vr11, vr12, vr13, vr14, vr15, vr16, vr17, vr18, vr19, vr20, vr21, vr22, vr23, vr24, vr25, vr26, vr27, vr28, vr29, vr30, vr31, vr32, vr33, vr34, opS, fpS, okP, pack, nAl, allocA, shId, leaves, fillA, fillR, splice, Nat.reduceLT, Nat.reduceEqDiff, Nat.reduceLeDiff, Nat.reduceAdd, Nat.reduceSub, Nat.reduceMul, Int.reduceBEq, Int.reduceBNe, Int.reduceLT, Int.reduceLE, Int.reduceEq, reduceIte, reduceCtorEq, da, int, boolA, RetP_go, resT, resC, resN, retV1, retV2, retV3, retV0, frzFZ, takeM, Option.some.injEq, h5, g]
    · rfl
    · rfl
    · simp only [↓vp, vq0, vq1, vq2, vq3, vr0, vr1, vr2, vr3, vr4, vr5, vr6, vr7, vr8, vr9, vr10, vr11, vr12, vr13, vr14, vr15, vr16, vr17, vr18, vr19, vr20, vr21, vr22, vr23, vr24, vr25, vr26, vr27, vr28, vr29, vr30, vr31, vr32, vr33, vr34, opS, fpS, okP, pack, nAl, allocA, shId, leaves, fillA, fillR, splice, Nat.reduceLT, Nat.reduceEqDiff, Nat.reduceLeDiff, Nat.reduceAdd, Nat.reduceSub, Nat.reduceMul, Int.reduceBEq, Int.reduceBNe, Int.reduceLT, Int.reduceLE, Int.reduceEq, reduceIte, reduceCtorEq, da, int, boolA]
      rw [wrap_i64 (by omega)]
      congr 2
      omega
theorem k44 {n : NodeM} {key : Bytes} (hn : okN n) (hk : okB key) {K : Heap} {L : List Blk} {Q : AV → Heap → Prop} :
    KW ft (.fn (.func 44) [] []) [.agg (nodeC n), encB key] (hx K L) Q ↔ Q (int (sideP n.kids key)) (hx K L) := KW_of (s44 n key hn hk _)
theorem k46 {l : List NamedM} {ref : Int} (hl : okL l) {K : Heap} {L : List Blk} {Q : AV → Heap → Prop} :
    KW ft (.fn (.func 46) [] []) [encL l, int ref] (hx K L) Q ↔ Q (.tup [.agg (nodeC (nodeM l ref).1), int (nodeM l ref).2]) (hx K L) := KW_of (s46 l ref hl _)
theorem k47 {n : NodeM} (h1 : n.items.length ≤ 1000) (h2 : n.kids.length ≤ 1000) {K : Heap} {L : List Blk} {Q : AV → Heap → Prop} :
    KW ft (.fn (.func 47) [] []) [.agg (nodeC n)] (hx K L) Q ↔ Q (.agg (nodeC n)) (hx K L) := KW_of (s47 n h1 h2 _)
theorem k53 {n : NodeM} (h1 : n.items.length ≤ 1000) (h2 : n.kids.length ≤ 1000) {K : Heap} {L : List Blk} {Q : AV → Heap → Prop} :
    KW ft (.fn (.func 53) [] []) [.agg (nodeC n)] (hx K L) Q ↔ Q (.agg (nodeC n)) (hx K L) := KW_of (s53 n h1 h2 _)

/-! ### the source -/
/-- No node has many parts. -/
def tinyL (l : List NamedM) : Prop := ∀ x ∈ l, x.n.items.length ≤ 1000 ∧ x.n.kids.length ≤ 1000
theorem tiny_node {l : List NamedM} (h : tinyL l) (ref : Int) : (nodeM l ref).1.items.length ≤ 1000 ∧ (nodeM l ref).1.kids.length ≤ 1000 := by
  unfold nodeM
  split
  · rename_i x hx
    exact h x (List.mem_of_find?_eq_some hx)
  · simp
theorem ok_node {l : List NamedM} (h : okL l) (ref : Int) : okN (nodeM l ref).1 := by
  unfold nodeM
  split
  · rename_i x hx
    exact h.h x (List.mem_of_find?_eq_some hx)
  · exact ⟨⟨by simp [MX], by simp⟩, ⟨by simp [MX], by simp⟩⟩
/-- The source that tells the nodes of a row. -/
def srcF (l : List NamedM) : AV := .fn (.func 45) [] [.pim [[encL l]] 0 0]
theorem s45 (l : List NamedM) (ref : Int) (hl : okL l) (ht : tinyL l) (H : Heap) : callL ft (srcF l) [int ref] H = some (.tup [.agg (nodeC (nodeM l ref).1), int (nodeM l ref).2], H) := by
  refine call_p (as' := [int ref, .pim [[encL l]] 0 0]) rfl rfl (by simp) ?_
  obtain ⟨t1, t2⟩ := tiny_node ht ref
  have hp : ∀ (H : Heap), cellsAt H (.pim [[encL l]] 0 0) 1 = some [encL l] := fun _ => rfl
  have k46' := fun K L Q => k46 (ref := ref) hl (K := K) (L := L) (Q := Q)
  unfold c45 r45
  simp only [int] at k46'
  simp only [↓vp, vq0, vq1, vq2, vq3, vr0, vr1, vr2, vr3, vr4, vr5, vr6, vr7, vr8, vr9, vr10, vr11, vr12, vr13, vr14, vr15, vr16, vr17, vr18, vr19, vr20, vr21, vr22, vr23, vr24, vr25, vr26, vr27, vr28, vr29, vr30, vr31, vr32, vr33, vr34, opS, fpS, okP, pack, nAl, allocA, shId, leaves, fillA, fillR, splice, Nat.reduceLT, Nat.reduceEqDiff, Nat.reduceLeDiff, Nat.reduceAdd, Nat.reduceSub, Nat.reduceMul, Int.reduceBEq, Int.reduceBNe, Int.reduceLT, Int.reduceLE, Int.reduceEq, reduceIte, reduceCtorEq, da, int, boolA, RetP_go, resT, resC, resN, retV1, retV2, retV3, retV0, frzFZ, takeM, Option.some.injEq, hp, k46', k47, t1, t2]
theorem k45 {l : List NamedM} {ref : Int} (hl : okL l) (ht : tinyL l) {K : Heap} {L : List Blk} {Q : AV → Heap → Prop} :
    KW ft (srcF l) [int ref] (hx K L) Q ↔ Q (.tup [.agg (nodeC (nodeM l ref).1), int (nodeM l ref).2]) (hx K L) := KW_of (s45 l ref hl ht _)
theorem s17 (l : List NamedM) (H : Heap) : callL ft (.fn (.func 17) [] []) [encL l] H = some (srcF l, H) := by
  refine call_p (as' := [encL l]) rfl rfl (by simp) ?_
  unfold c17 r17 srcF
  simp only [↓vp, vq0, vq1, vq2, vq3, vr0, vr1, vr2, vr3, vr4, vr5, vr6, vr7, vr8, vr9, vr10, vr11, vr12, vr13, vr14, vr15, vr16, vr17, vr18, vr19, vr20, vr21, vr22, vr23, vr24, vr25, vr26, vr27, vr28, vr29, vr30, vr31, vr32, vr33, vr34, opS, fpS, okP, pack, nAl, allocA, shId, leaves, fillA, fillR, splice, Nat.reduceLT, Nat.reduceEqDiff, Nat.reduceLeDiff, Nat.reduceAdd, Nat.reduceSub, Nat.reduceMul, Int.reduceBEq, Int.reduceBNe, Int.reduceLT, Int.reduceLE, Int.reduceEq, reduceIte, reduceCtorEq, da, int, boolA, RetP_go, resT, resC, resN, retV1, retV2, retV3, retV0, frzFZ, takeM, Option.some.injEq]
theorem k17 {l : List NamedM} {K : Heap} {L : List Blk} {Q : AV → Heap → Prop} : KW ft (.fn (.func 17) [] []) [encL l] (hx K L) Q ↔ Q (srcF l) (hx K L) := KW_of (s17 l _)

/-! ### the choices of the ways -/
/-- By a key. -/
def byKey (key : Bytes) : AV := .fn (.func 42) [] [.pim [[encB key]] 0 0]
def pathK (key : Bytes) (n : NodeM) : Int := if n.leaf then bsM n.items key else sideP n.kids key
theorem s42 (key : Bytes) (n : NodeM) (hn : okN n) (hl2 : n.items.length < 4000000000000000000) (hk : okB key) (H : Heap) : callL ft (byKey key) [.agg (nodeC n)] H = some (int (pathK key n), H) := by
  refine call_p (as' := [.agg (nodeC n), .pim [[encB key]] 0 0]) rfl rfl (by simp) ?_
  have hp : ∀ (H : Heap), cellsAt H (.pim [[encB key]] 0 0) 1 = some [encB key] := fun _ => rfl
  unfold c42 r42 pathK
  cases e : n.leaf with
  | true => simp only [↓vp, vq0, vq1, vq2, vq3, vr0, vr1, vr2, vr3, vr4, vr5, vr6, vr7, vr8, vr9, vr10, vr11, vr12, vr13, vr14, vr15, vr16, vr17, vr18, vr19, vr20, vr21, vr22, vr23, vr24, vr25, vr26, vr27, vr28, vr29, vr30, vr31, vr32, vr33, vr34, opS, fpS, okP, pack, nAl, allocA, shId, leaves, fillA, fillR, splice, Nat.reduceLT, Nat.reduceEqDiff, Nat.reduceLeDiff, Nat.reduceAdd, Nat.reduceSub, Nat.reduceMul, Int.reduceBEq, Int.reduceBNe, Int.reduceLT, Int.reduceLE, Int.reduceEq, reduceIte, reduceCtorEq, da, int, boolA, RetP_go, resT, resC, resN, retV1, retV2, retV3, retV0, frzFZ, takeM, Option.some.injEq, hp, e, k43, hn, hl2, hk]
  | false => simp only [↓vp, vq0, vq1, vq2, vq3, vr0, vr1, vr2, vr3, vr4, vr5, vr6, vr7, vr8, vr9, vr10, vr11, vr12, vr13, vr14, vr15, vr16, vr17, vr18, vr19, vr20, vr21, vr22, vr23, vr24, vr25, vr26, vr27, vr28, vr29, vr30, vr31, vr32, vr33, vr34, opS, fpS, okP, pack, nAl, allocA, shId, leaves, fillA, fillR, splice, Nat.reduceLT, Nat.reduceEqDiff, Nat.reduceLeDiff, Nat.reduceAdd, Nat.reduceSub, Nat.reduceMul, Int.reduceBEq, Int.reduceBNe, Int.reduceLT, Int.reduceLE, Int.reduceEq, reduceIte, reduceCtorEq, da, int, boolA, RetP_go, resT, resC, resN, retV1, retV2, retV3, retV0, frzFZ, takeM, Option.some.injEq, hp, e, k44, hn, hl2, hk]
theorem k42 {key : Bytes} {n : NodeM} (hn : okN n) (hl2 : n.items.length < 4000000000000000000) (hk : okB key) {K : Heap} {L : List Blk} {Q : AV → Heap → Prop} :
    KW ft (byKey key) [.agg (nodeC n)] (hx K L) Q ↔ Q (int (pathK key n)) (hx K L) := KW_of (s42 key n hn hl2 hk _)
/-- To an edge. -/
def toEdge (last : Bool) : AV := .fn (.func 51) [] [.pim [[boolA last]] 0 0]
def edgeK (last : Bool) (n : NodeM) : Int := if last then (if n.leaf then (if n.items.length = 0 then 0 else n.items.length - 1) else n.kids.length - 1) else 0
theorem s51 (last : Bool) (n : NodeM) (hn : okN n) (H : Heap) : callL ft (toEdge last) [.agg (nodeC n)] H = some (int (edgeK last n), H) := by
  refine call_p (as' := [.agg (nodeC n), .pim [[boolA last]] 0 0]) rfl rfl (by simp) ?_
  have hp : ∀ (H : Heap), cellsAt H (.pim [[boolA last]] 0 0) 1 = some [boolA last] := fun _ => rfl
  have h1 := hn.i.n
  have h2 := hn.k.n
  unfold MX at h1 h2
  have w1 : IntKind.i64.wrap ((n.items.length : Int) - 1) = (n.items.length : Int) - 1 := wrap_i64 (by omega)
  have w2 : IntKind.i64.wrap ((n.kids.length : Int) - 1) = (n.kids.length : Int) - 1 := wrap_i64 (by omega)
  unfold c51 r51 edgeK
  simp only [boolA] at hp
  cases last with
  | false => simp only [↓vp, vq0, vq1, vq2, vq3, vr0, vr1, vr2, vr3, vr4, vr5, vr6, vr7, vr8, vr9, vr10, vr11, vr12, vr13, vr14, vr15, vr16, vr17, vr18, vr19, vr20, vr21, vr22, vr23, vr24, vr25, vr26, vr27, vr28, vr29, vr30, vr31, vr32, vr33, vr34, opS, fpS, okP, pack, nAl, allocA, shId, leaves, fillA, fillR, splice, Nat.reduceLT, Nat.reduceEqDiff, Nat.reduceLeDiff, Nat.reduceAdd, Nat.reduceSub, Nat.reduceMul, Int.reduceBEq, Int.reduceBNe, Int.reduceLT, Int.reduceLE, Int.reduceEq, reduceIte, reduceCtorEq, da, int, boolA, RetP_go, resT, resC, resN, retV1, retV2, retV3, retV0, frzFZ, takeM, Option.some.injEq, hp]
  | true =>
    cases e : n.leaf with
    | true =>
      by_cases h0 : n.items.length = 0
      · have g : (((n.items.length : Int) - 1) < 0) = True := eq_true (by omega)
        simp only [↓vp, vq0, vq1, vq2, vq3, vr0, vr1, vr2, vr3, vr4, vr5, vr6, vr7, vr8, vr9, vr10, vr11, vr12, vr13, vr14, vr15, vr16, vr17, vr18, vr19, vr20, vr21, vr22, vr23, vr24, vr25, vr26, vr27, vr28, vr29, vr30, vr31, vr32, vr33, vr34, opS, fpS, okP, pack, nAl, allocA, shId, leaves, fillA, fillR, splice, Nat.reduceLT, Nat.reduceEqDiff, Nat.reduceLeDiff, Nat.reduceAdd, Nat.reduceSub, Nat.reduceMul, Int.reduceBEq, Int.reduceBNe, Int.reduceLT, Int.reduceLE, Int.reduceEq, reduceIte, reduceCtorEq, da, int, boolA, RetP_go, resT, resC, resN, retV1, retV2, retV3, retV0, frzFZ, takeM, Option.some.injEq, hp, e, w1, g, if_pos h0]
      · have g : (((n.items.length : Int) - 1) < 0) = False := eq_false (by omega)
        simp only [↓vp, vq0, vq1, vq2, vq3, vr0, vr1, vr2, vr3, vr4, vr5, vr6, vr7, vr8, vr9, vr10, vr11, vr12, vr13, vr14, vr15, vr16, vr17, vr18, vr19, vr20, vr21, vr22, vr23, vr24, vr25, vr26, vr27, vr28, vr29, vr30, vr31, vr32, vr33, vr34, opS, fpS, okP, pack, nAl, allocA, shId, leaves, fillA, fillR, splice, Nat.reduceLT, Nat.reduceEqDiff, Nat.reduceLeDiff, Nat.reduceAdd, Nat.reduceSub, Nat.reduceMul, Int.reduceBEq, Int.reduceBNe, Int.reduceLT, Int.reduceLE, Int.reduceEq, reduceIte, reduceCtorEq, da, int, boolA, RetP_go, resT, resC, resN, retV1, retV2, retV3, retV0, frzFZ, takeM, Option.some.injEq, hp, e, w1, g, if_neg h0]
    | false => simp only [↓vp, vq0, vq1, vq2, vq3, vr0, vr1, vr2, vr3, vr4, vr5, vr6, vr7, vr8, vr9, vr10, vr11, vr12, vr13, vr14, vr15, vr16, vr17, vr18, vr19, vr20, vr21, vr22, vr23, vr24, vr25, vr26, vr27, vr28, vr29, vr30, vr31, vr32, vr33, vr34, opS, fpS, okP, pack, nAl, allocA, shId, leaves, fillA, fillR, splice, Nat.reduceLT, Nat.reduceEqDiff, Nat.reduceLeDiff, Nat.reduceAdd, Nat.reduceSub, Nat.reduceMul, Int.reduceBEq, Int.reduceBNe, Int.reduceLT, Int.reduceLE, Int.reduceEq, reduceIte, reduceCtorEq, da, int, boolA, RetP_go, resT, resC, resN, retV1, retV2, retV3, retV0, frzFZ, takeM, Option.some.injEq, hp, e, w2]
theorem k51 {last : Bool} {n : NodeM} (hn : okN n) {K : Heap} {L : List Blk} {Q : AV → Heap → Prop} :
    KW ft (toEdge last) [.agg (nodeC n)] (hx K L) Q ↔ Q (int (edgeK last n)) (hx K L) := KW_of (s51 last n hn _)
end Go.VI
