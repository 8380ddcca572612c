/- VI, part SE: the program's Compare, Find, Side. -/
import Derived.Test.YtkjeigdiojdfnaaSD
set_option linter.unusedVariables false
set_option linter.unusedSimpArgs false
set_option maxRecDepth 100000
namespace Go.VI
attribute [local congr] AW_congr OW_congr DW_congr NW_congr VW_congr GW_congr PW_congr KW_congr ite_congr' GV_congr CV_congr

theorem s53 (n : NodeM) (hs : n.items.length ≤ 1000) (hs2 : n.kids.length ≤ 1000) (H : Heap) : callL ft (.fn (.func 53) [] []) [.agg (nodeC n)] H = some (.agg (nodeC n), H) := by
  have := s47 n hs hs2 H
  rw [callL_fn] at this ⊢
  exact this

theorem s69 {a b : Bytes} (ha : okB a) (hb : okB b) (H : Heap) : callL ft (.fn (.func 69) [] []) [encB a, encB b] H = some (int (cmpB a b), H) := by
  refine call_pprim (p := cmpP) rfl (as' := [encB a, encB b]) rfl ?_
  show ((bytesOfRows (a.map byteC)).bind fun l => (bytesOfRows (b.map byteC)).bind fun k => if byteR l && byteR k then some (AV.sc (.int .i64 (cmpB l k))) else none) = _
  have h1 : bytesOfRows (a.map byteC) = some a := bytesOfRows_map a
  have h2 : bytesOfRows (b.map byteC) = some b := bytesOfRows_map b
  rw [h1, h2, Option.bind_some, Option.bind_some, ha.r, hb.r]
  rfl
theorem k69 {a b : Bytes} (ha : okB a) (hb : okB b) {K : Heap} {L : List Blk} {Q : AV → Heap → Prop} : KW ft (.fn (.func 69) [] []) [encB a, encB b] (hx K L) Q ↔ Q (int (cmpB a b)) (hx K L) := KW_of (s69 ha hb _)
theorem s65 {a b : Bytes} (ha : okB a) (hb : okB b) (H : Heap) : callL ft (.fn (.func 65) [] []) [encB a, encB b] H = some (int (cmpB a b), H) := by
  refine call_p (as' := [encB a, encB b]) rfl rfl (by simp) ?_
  unfold c65 r65
  simp only [↓vp, vq0, vq1, vq2, vq3, vr0, vr1, vr2, vr3, vr4, vr5, vr6, vr7, vr8, vr9, vr10, vr11, vr12, vr13, vr14, vr15, vr16, vr17, vr18, vr19, vr20, vr21, vr22, vr23, vr24, vr25, vr26, vr27, vr28, vr29, vr30, vr31, vr32, vr33, vr34, opS, fpS, okP, pack, nAl, allocA, shId, leaves, fillA, fillR, splice, Nat.reduceLT, Nat.reduceEqDiff, Nat.reduceLeDiff, Nat.reduceAdd, Nat.reduceSub, Nat.reduceMul, Int.reduceBEq, Int.reduceBNe, Int.reduceLT, Int.reduceLE, Int.reduceEq, reduceIte, reduceCtorEq, da, int, boolA, RetP_go, resT, resC, resN, retV1, retV2, retV3, retV0, frzFZ, takeM, Option.some.injEq, k69, ha, hb]
theorem k65 {a b : Bytes} (ha : okB a) (hb : okB b) {K : Heap} {L : List Blk} {Q : AV → Heap → Prop} : KW ft (.fn (.func 65) [] []) [encB a, encB b] (hx K L) Q ↔ Q (int (cmpB a b)) (hx K L) := KW_of (s65 ha hb _)
theorem s40 {a b : Bytes} (ha : okB a) (hb : okB b) (H : Heap) : callL ft (.fn (.func 40) [] []) [encB a, encB b] H = some (int (cmpB a b), H) := by
  refine call_p (as' := [encB a, encB b]) rfl rfl (by simp) ?_
  unfold c40 r40
  simp only [↓vp, vq0, vq1, vq2, vq3, vr0, vr1, vr2, vr3, vr4, vr5, vr6, vr7, vr8, vr9, vr10, vr11, vr12, vr13, vr14, vr15, vr16, vr17, vr18, vr19, vr20, vr21, vr22, vr23, vr24, vr25, vr26, vr27, vr28, vr29, vr30, vr31, vr32, vr33, vr34, opS, fpS, okP, pack, nAl, allocA, shId, leaves, fillA, fillR, splice, Nat.reduceLT, Nat.reduceEqDiff, Nat.reduceLeDiff, Nat.reduceAdd, Nat.reduceSub, Nat.reduceMul, Int.reduceBEq, Int.reduceBNe, Int.reduceLT, Int.reduceLE, Int.reduceEq, reduceIte, reduceCtorEq, da, int, boolA, RetP_go, resT, resC, resN, retV1, retV2, retV3, retV0, frzFZ, takeM, Option.some.injEq, k65, ha, hb]
theorem k40 {a b : Bytes} (ha : okB a) (hb : okB b) {K : Heap} {L : List Blk} {Q : AV → Heap → Prop} : KW ft (.fn (.func 40) [] []) [encB a, encB b] (hx K L) Q ↔ Q (int (cmpB a b)) (hx K L) := KW_of (s40 ha hb _)
theorem s67 {x : ItemM} {b : Bytes} (ha : okB x.key) (hb : okB b) (H : Heap) : callL ft (.fn (.func 67) [] []) [.agg (itemC x), encB b] H = some (int (cmpB x.key b), H) := by
  refine call_p (as' := [.agg (itemC x), encB b]) rfl rfl (by simp) ?_
  unfold c67 r67
  simp only [↓vp, vq0, vq1, vq2, vq3, vr0, vr1, vr2, vr3, vr4, vr5, vr6, vr7, vr8, vr9, vr10, vr11, vr12, vr13, vr14, vr15, vr16, vr17, vr18, vr19, vr20, vr21, vr22, vr23, vr24, vr25, vr26, vr27, vr28, vr29, vr30, vr31, vr32, vr33, vr34, opS, fpS, okP, pack, nAl, allocA, shId, leaves, fillA, fillR, splice, Nat.reduceLT, Nat.reduceEqDiff, Nat.reduceLeDiff, Nat.reduceAdd, Nat.reduceSub, Nat.reduceMul, Int.reduceBEq, Int.reduceBNe, Int.reduceLT, Int.reduceLE, Int.reduceEq, reduceIte, reduceCtorEq, da, int, boolA, RetP_go, resT, resC, resN, retV1, retV2, retV3, retV0, frzFZ, takeM, Option.some.injEq, k40, ha, hb]
theorem k67 {x : ItemM} {b : Bytes} (ha : okB x.key) (hb : okB b) {K : Heap} {L : List Blk} {Q : AV → Heap → Prop} : KW ft (.fn (.func 67) [] []) [.agg (itemC x), encB b] (hx K L) Q ↔ Q (int (cmpB x.key b)) (hx K L) := KW_of (s67 ha hb _)

/-! ### the binary search -/
/-- Where it stops: between i and j. -/
def bsG (l : List ItemM) (key : Bytes) : Nat → Nat → Nat → Nat
  | 0, i, _ => i
  | n + 1, i, j => if i < j then (if cmpB ((l[(i + j) / 2]?).elim [] (·.key)) key < 0 then bsG l key n ((i + j) / 2 + 1) j else bsG l key n i ((i + j) / 2)) else i
def bsM (l : List ItemM) (key : Bytes) : Nat := bsG l key (l.length + 1) 0 l.length
theorem bin_shr1 (t : TypeId) (a : Int) : binA .shr t (.sc (.int .u64 a)) (.sc (.int .u64 1)) = some (.sc (.int .u64 (a.fdiv 2))) := by
  simp [binA, binOp, Op.shift, pureRun, ofScalar, isSc, pure, IntKind.bits]
theorem u64_in {n : Int} (h : 0 ≤ n ∧ n < 18446744073709551616) : IntKind.u64.wrap n = n := by
  simp only [IntKind.wrap, IntKind.bits, IntKind.signed]
  simp
  omega
theorem l66 (l : List ItemM) (key : Bytes) (hl : okI l) (hl2 : l.length < 4000000000000000000) (hk : okB key) {Q : AExit → Env → Heap → Prop}
   (hex : ∀ f', f' 0 = encI l → f' 1 = encB key → f' 2 = .fn (.func 67) [] [] → f' 8 = int l.length → f' 9 = int (bsM l key) → Q (.exit 0) (mkE 49 f') (hx Heap.empty [])) :
   ∀ (n i j : Nat) (f : Nat → AV), j < i + n → i ≤ j → j ≤ l.length → bsM l key = bsG l key n i j → f 0 = encI l → f 1 = encB key → f 2 = .fn (.func 67) [] [] → f 8 = int l.length → f 9 = int i → f 10 = int j →
    AW ft (.loop c66L0) (mkE 49 f) (hx Heap.empty []) Q := by
  intro n
  induction n with
  | zero => intro i j f hn hij; omega
  | succ n ih =>
    intro i j f hn hij hjl hc h0 h1 h2 h8 h9 h10
    rw [AW_loop]
    unfold c66L0
    by_cases hlt : i < j
    · have g : ((i : Int) < j) = True := by simp; omega
      have gi : (i + j) / 2 < l.length := by omega
      have w1 := wrap_succ (show (i + j) / 2 < 9223372036854775807 by omega)
      simp only [↓vp, vq0, vq1, vq2, vq3, vr0, vr1, vr2, vr3, vr4, vr5, vr6, vr7, vr8, vr9, vr10, vr11, vr12, vr13, vr14, vr15, vr16, vr17, vr18, vr19, vr20, vr21, vr22, vr23, vr24, vr25, vr26, vr27, vr28, vr29, vr30, vr31, vr32, vr33, vr34, opS, fpS, okP, pack, nAl, allocA, shId, leaves, fillA, fillR, splice, Nat.reduceLT, Nat.reduceEqDiff, Nat.reduceLeDiff, Nat.reduceAdd, Nat.reduceSub, Nat.reduceMul, Int.reduceBEq, Int.reduceBNe, Int.reduceLT, Int.reduceLE, Int.reduceEq, reduceIte, reduceCtorEq, da, int, boolA, h0, h1, h2, h8, h9, h10, g]
      have q1 : IntKind.u64.wrap (IntKind.i64.wrap ((i : Int) + j)) = ((i + j : Nat) : Int) := by
        rw [wrap_i64 (by omega), u64_in (by omega)]; omega
      have q2 : ((i + j : Nat) : Int).fdiv 2 = (((i + j) / 2 : Nat) : Int) := by
        rw [Int.fdiv_eq_ediv_of_nonneg _ (by omega)]; omega
      have q3 : IntKind.i64.wrap (((i + j) / 2 : Nat) : Int) = (((i + j) / 2 : Nat) : Int) := wrap_i64 (by omega)
      have hx1 := (hl.at_ gi).k
      have hel : (l[(i + j) / 2]?).elim [] (·.key) = l[(i + j) / 2].key := by rw [List.getElem?_eq_getElem gi]; rfl
      rw [bsG, if_pos hlt, hel] at hc
      by_cases e1 : cmpB l[(i + j) / 2].key key < 0
      · rw [if_pos e1] at hc
        simp only [↓vp, vq0, vq1, vq2, vq3, vr0, vr1, vr2, vr3, vr4, vr5, vr6, vr7, vr8, vr9, vr10, vr11, vr12, vr13, vr14, vr15, vr16, vr17, vr18, vr19, vr20, vr21, vr22, vr23, vr24, vr25, vr26, vr27, vr28, vr29, vr30, vr31, vr32, vr33, vr34, opS, fpS, okP, pack, nAl, allocA, shId, leaves, fillA, fillR, splice, Nat.reduceLT, Nat.reduceEqDiff, Nat.reduceLeDiff, Nat.reduceAdd, Nat.reduceSub, Nat.reduceMul, Int.reduceBEq, Int.reduceBNe, Int.reduceLT, Int.reduceLE, Int.reduceEq, reduceIte, reduceCtorEq, da, int, boolA, h0, h1, h2, h8, h9, h10, g, q1, q2, q3, bin_shr1, atI gi, cI gi, k67, hx1, hk, e1, w1]
        refine ih ((i + j) / 2 + 1) j _ (by omega) (by omega) hjl hc ?_ ?_ ?_ ?_ ?_ ?_ <;> simp only [↓vp, vq0, vq1, vq2, vq3, vr0, vr1, vr2, vr3, vr4, vr5, vr6, vr7, vr8, vr9, vr10, vr11, vr12, vr13, vr14, vr15, vr16, vr17, vr18, vr19, vr20, vr21, vr22, vr23, vr24, vr25, vr26, vr27, vr28, vr29, vr30, vr31, vr32, vr33, vr34, opS, fpS, okP, pack, nAl, allocA, shId, leaves, fillA, fillR, splice, Nat.reduceLT, Nat.reduceEqDiff, Nat.reduceLeDiff, Nat.reduceAdd, Nat.reduceSub, Nat.reduceMul, Int.reduceBEq, Int.reduceBNe, Int.reduceLT, Int.reduceLE, Int.reduceEq, reduceIte, reduceCtorEq, da, int, boolA, h0, h1, h2, h8, h9, h10]
      · rw [if_neg e1] at hc
        simp only [↓vp, vq0, vq1, vq2, vq3, vr0, vr1, vr2, vr3, vr4, vr5, vr6, vr7, vr8, vr9, vr10, vr11, vr12, vr13, vr14, vr15, vr16, vr17, vr18, vr19, vr20, vr21, vr22, vr23, vr24, vr25, vr26, vr27, vr28, vr29, vr30, vr31, vr32, vr33, vr34, opS, fpS, okP, pack, nAl, allocA, shId, leaves, fillA, fillR, splice, Nat.reduceLT, Nat.reduceEqDiff, Nat.reduceLeDiff, Nat.reduceAdd, Nat.reduceSub, Nat.reduceMul, Int.reduceBEq, Int.reduceBNe, Int.reduceLT, Int.reduceLE, Int.reduceEq, reduceIte, reduceCtorEq, da, int, boolA, h0, h1, h2, h8, h9, h10, g, q1, q2, q3, bin_shr1, atI gi, cI gi, k67, hx1, hk, e1, w1]
        refine ih i ((i + j) / 2) _ (by omega) (by omega) (by omega) hc ?_ ?_ ?_ ?_ ?_ ?_ <;> simp only [↓vp, vq0, vq1, vq2, vq3, vr0, vr1, vr2, vr3, vr4, vr5, vr6, vr7, vr8, vr9, vr10, vr11, vr12, vr13, vr14, vr15, vr16, vr17, vr18, vr19, vr20, vr21, vr22, vr23, vr24, vr25, vr26, vr27, vr28, vr29, vr30, vr31, vr32, vr33, vr34, opS, fpS, okP, pack, nAl, allocA, shId, leaves, fillA, fillR, splice, Nat.reduceLT, Nat.reduceEqDiff, Nat.reduceLeDiff, Nat.reduceAdd, Nat.reduceSub, Nat.reduceMul, Int.reduceBEq, Int.reduceBNe, Int.reduceLT, Int.reduceLE, Int.reduceEq, reduceIte, reduceCtorEq, da, int, boolA, h0, h1, h2, h8, h9, h10]
    · have g : ((i : Int) < j) = False := by simp; omega
      rw [bsG, if_neg hlt] at hc
      simp only [↓vp, vq0, vq1, vq2, vq3, vr0, vr1, vr2, vr3, vr4, vr5, vr6, vr7, vr8, vr9, vr10, vr11, vr12, vr13, vr14, vr15, vr16, vr17, vr18, vr19, vr20, vr21, vr22, vr23, vr24, vr25, vr26, vr27, vr28, vr29, vr30, vr31, vr32, vr33, vr34, opS, fpS, okP, pack, nAl, allocA, shId, leaves, fillA, fillR, splice, Nat.reduceLT, Nat.reduceEqDiff, Nat.reduceLeDiff, Nat.reduceAdd, Nat.reduceSub, Nat.reduceMul, Int.reduceBEq, Int.reduceBNe, Int.reduceLT, Int.reduceLE, Int.reduceEq, reduceIte, reduceCtorEq, da, int, boolA, h9, h10, g]
      refine hex _ ?_ ?_ ?_ ?_ ?_ <;> simp only [↓vp, vq0, vq1, vq2, vq3, vr0, vr1, vr2, vr3, vr4, vr5, vr6, vr7, vr8, vr9, vr10, vr11, vr12, vr13, vr14, vr15, vr16, vr17, vr18, vr19, vr20, vr21, vr22, vr23, vr24, vr25, vr26, vr27, vr28, vr29, vr30, vr31, vr32, vr33, vr34, opS, fpS, okP, pack, nAl, allocA, shId, leaves, fillA, fillR, splice, Nat.reduceLT, Nat.reduceEqDiff, Nat.reduceLeDiff, Nat.reduceAdd, Nat.reduceSub, Nat.reduceMul, Int.reduceBEq, Int.reduceBNe, Int.reduceLT, Int.reduceLE, Int.reduceEq, reduceIte, reduceCtorEq, da, int, boolA, h0, h1, h2, h8, h9, hc]
/-- Does it stand where the search stopped? -/
def bsIs (l : List ItemM) (key : Bytes) : Bool := match l[bsM l key]? with
  | some x => cmpB x.key key == 0
  | none => false
theorem s66 (l : List ItemM) (key : Bytes) (hl : okI l) (hl2 : l.length < 4000000000000000000) (hk : okB key) (H : Heap) : callL ft (.fn (.func 66) [] []) [encI l, encB key, .fn (.func 67) [] []] H = some (.tup [int (bsM l key), boolA (bsIs l key)], H) := by
  refine call_p (as' := [encI l, encB key, .fn (.func 67) [] []]) rfl rfl (by simp) ?_
  unfold c66 r66
  simp only [↓vp, vq0, vq1, vq2, vq3, vr0, vr1, vr2, vr3, vr4, vr5, vr6, vr7, vr8, vr9, vr10, vr11, vr12, vr13, vr14, vr15, vr16, vr17, vr18, vr19, vr20, vr21, vr22, vr23, vr24, vr25, vr26, vr27, vr28, vr29, vr30, vr31, vr32, vr33, vr34, opS, fpS, okP, pack, nAl, allocA, shId, leaves, fillA, fillR, splice, Nat.reduceLT, Nat.reduceEqDiff, Nat.reduceLeDiff, Nat.reduceAdd, Nat.reduceSub, Nat.reduceMul, Int.reduceBEq, Int.reduceBNe, Int.reduceLT, Int.reduceLE, Int.reduceEq, reduceIte, reduceCtorEq, da, int, boolA]
  refine l66 l key hl hl2 hk (fun f' h0 h1 h2 h8 h9 => ?_) (l.length + 1) 0 l.length _ (by omega) (by omega) (by omega) rfl ?_ ?_ ?_ ?_ ?_ ?_
  · unfold c66R1
    by_cases g : bsM l key < l.length
    · have g' : ((bsM l key : Int) < l.length) = True := by simp; omega
      have hx1 := (hl.at_ g).k
      have hel : l[bsM l key]? = some l[bsM l key] := List.getElem?_eq_getElem g
      simp only [↓vp, vq0, vq1, vq2, vq3, vr0, vr1, vr2, vr3, vr4, vr5, vr6, vr7, vr8, vr9, vr10, vr11, vr12, vr13, vr14, vr15, vr16, vr17, vr18, vr19, vr20, vr21, vr22, vr23, vr24, vr25, vr26, vr27, vr28, vr29, vr30, vr31, vr32, vr33, vr34, opS, fpS, okP, pack, nAl, allocA, shId, leaves, fillA, fillR, splice, Nat.reduceLT, Nat.reduceEqDiff, Nat.reduceLeDiff, Nat.reduceAdd, Nat.reduceSub, Nat.reduceMul, Int.reduceBEq, Int.reduceBNe, Int.reduceLT, Int.reduceLE, Int.reduceEq, reduceIte, reduceCtorEq, da, int, boolA, RetP_go, resT, resC, resN, retV1, retV2, retV3, retV0, frzFZ, takeM, Option.some.injEq, h0, h1, h2, h8, h9, g', atI g, cI g, k67, hx1, hk, bsIs, hel]
    · have g' : ((bsM l key : Int) < l.length) = False := by simp; omega
      have hel : l[bsM l key]? = none := List.getElem?_eq_none (by omega)
      simp only [↓vp, vq0, vq1, vq2, vq3, vr0, vr1, vr2, vr3, vr4, vr5, vr6, vr7, vr8, vr9, vr10, vr11, vr12, vr13, vr14, vr15, vr16, vr17, vr18, vr19, vr20, vr21, vr22, vr23, vr24, vr25, vr26, vr27, vr28, vr29, vr30, vr31, vr32, vr33, vr34, opS, fpS, okP, pack, nAl, allocA, shId, leaves, fillA, fillR, splice, Nat.reduceLT, Nat.reduceEqDiff, Nat.reduceLeDiff, Nat.reduceAdd, Nat.reduceSub, Nat.reduceMul, Int.reduceBEq, Int.reduceBNe, Int.reduceLT, Int.reduceLE, Int.reduceEq, reduceIte, reduceCtorEq, da, int, boolA, RetP_go, resT, resC, resN, retV1, retV2, retV3, retV0, frzFZ, takeM, Option.some.injEq, h0, h1, h2, h8, h9, g', bsIs, hel]
  all_goals first | rfl | (simp only [↓vp, vq0, vq1, vq2, vq3, vr0, vr1, vr2, vr3, vr4, vr5, vr6, vr7, vr8, vr9, vr10, vr11, vr12, vr13, vr14, vr15, vr16, vr17, vr18, vr19, vr20, vr21, vr22, vr23, vr24, vr25, vr26, vr27, vr28, vr29, vr30, vr31, vr32, vr33, vr34, opS, fpS, okP, pack, nAl, allocA, shId, leaves, fillA, fillR, splice, Nat.reduceLT, Nat.reduceEqDiff, Nat.reduceLeDiff, Nat.reduceAdd, Nat.reduceSub, Nat.reduceMul, Int.reduceBEq, Int.reduceBNe, Int.reduceLT, Int.reduceLE, Int.reduceEq, reduceIte, reduceCtorEq, da, int, boolA]; done)
theorem k66 {l : List ItemM} {key : Bytes} (hl : okI l) (hl2 : l.length < 4000000000000000000) (hk : okB key) {K : Heap} {L : List Blk} {Q : AV → Heap → Prop} :
    KW ft (.fn (.func 66) [] []) [encI l, encB key, .fn (.func 67) [] []] (hx K L) Q ↔ Q (.tup [int (bsM l key), boolA (bsIs l key)]) (hx K L) := KW_of (s66 l key hl hl2 hk _)
theorem s43 (n : NodeM) (key : Bytes) (hn : okN n) (hl2 : n.items.length < 4000000000000000000) (hk : okB key) (H : Heap) : callL ft (.fn (.func 43) [] []) [.agg (nodeC n), encB key] H = some (.tup [int (bsM n.items key), boolA (bsIs n.items key)], H) := by
  refine call_p (as' := [.agg (nodeC n), encB key]) rfl rfl (by simp) ?_
  have h1 := hn.i
  unfold c43 r43
  simp only [↓vp, vq0, vq1, vq2, vq3, vr0, vr1, vr2, vr3, vr4, vr5, vr6, vr7, vr8, vr9, vr10, vr11, vr12, vr13, vr14, vr15, vr16, vr17, vr18, vr19, vr20, vr21, vr22, vr23, vr24, vr25, vr26, vr27, vr28, vr29, vr30, vr31, vr32, vr33, vr34, opS, fpS, okP, pack, nAl, allocA, shId, leaves, fillA, fillR, splice, Nat.reduceLT, Nat.reduceEqDiff, Nat.reduceLeDiff, Nat.reduceAdd, Nat.reduceSub, Nat.reduceMul, Int.reduceBEq, Int.reduceBNe, Int.reduceLT, Int.reduceLE, Int.reduceEq, reduceIte, reduceCtorEq, da, int, boolA, RetP_go, resT, resC, resN, retV1, retV2, retV3, retV0, frzFZ, takeM, Option.some.injEq, k66, h1, hl2, hk]
theorem k43 {n : NodeM} {key : Bytes} (hn : okN n) (hl2 : n.items.length < 4000000000000000000) (hk : okB key) {K : Heap} {L : List Blk} {Q : AV → Heap → Prop} :
    KW ft (.fn (.func 43) [] []) [.agg (nodeC n), encB key] (hx K L) Q ↔ Q (.tup [int (bsM n.items key), boolA (bsIs n.items key)]) (hx K L) := KW_of (s43 n key hn hl2 hk _)
end Go.VI
