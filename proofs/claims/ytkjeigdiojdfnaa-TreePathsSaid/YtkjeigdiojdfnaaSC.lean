/- VI, part SC: few nodes; nodes alike. -/
import Derived.Test.YtkjeigdiojdfnaaSB
set_option linter.unusedVariables false
set_option linter.unusedSimpArgs false
set_option maxRecDepth 100000
namespace Go.VI
attribute [local congr] AW_congr OW_congr DW_congr NW_congr VW_congr GW_congr PW_congr KW_congr ite_congr' GV_congr CV_congr

def sumM : Int → List NamedM → Int
  | s, [] => s
  | s, x :: r => sumM (IntKind.i64.wrap (s + IntKind.i64.wrap ((x.n.items.length : Int) + x.n.kids.length))) r
def fewM (l : List NamedM) : Bool := decide ((l.length : Int) ≤ 40) && decide (sumM 0 l ≤ 200)
theorem l13 (l : List NamedM) (hl : okL l) {Q : AExit → Env → Heap → Prop} (hex : ∀ f' K, f' 0 = encL l → f' 3 = int (sumM 0 l) → Q (.exit 0) (mkE 31 f') (hx K [])) :
   ∀ (d i : Nat) (s : Int) (K : Heap) (f : Nat → AV), i + d = l.length → sumM 0 l = sumM s (l.drop i) → f 0 = encL l → f 6 = encL l → f 7 = int l.length → f 3 = int s → f 8 = int i →
    AW ft (.loop c13L0) (mkE 31 f) (hx K []) Q := by
  intro d
  have hi := hl.n
  unfold MX at hi
  induction d with
  | zero =>
    intro i s K f hd hc h0 h6 h7 h3 h8
    have g : ((i : Int) < l.length) = False := by simp; omega
    rw [AW_loop]
    unfold c13L0
    rw [List.drop_eq_nil_of_le (by omega)] at hc
    simp only [↓vp, vq0, vq1, vq2, vq3, vr0, vr1, vr2, vr3, vr4, vr5, vr6, vr7, vr8, vr9, vr10, vr11, vr12, vr13, vr14, vr15, vr16, vr17, vr18, vr19, vr20, vr21, vr22, vr23, vr24, vr25, vr26, vr27, vr28, vr29, vr30, vr31, vr32, vr33, vr34, opS, fpS, okP, pack, nAl, allocA, shId, leaves, fillA, fillR, splice, Nat.reduceLT, Nat.reduceEqDiff, Nat.reduceLeDiff, Nat.reduceAdd, Nat.reduceSub, Nat.reduceMul, Int.reduceBEq, Int.reduceBNe, Int.reduceLT, Int.reduceLE, Int.reduceEq, reduceIte, reduceCtorEq, int, h7, h8, g]
    refine hex _ _ ?_ ?_
    · simp only [↓vp, vq0, vq1, vq2, vq3, vr0, vr1, vr2, vr3, vr4, vr5, vr6, vr7, vr8, vr9, vr10, vr11, vr12, vr13, vr14, vr15, vr16, vr17, vr18, vr19, vr20, vr21, vr22, vr23, vr24, vr25, vr26, vr27, vr28, vr29, vr30, vr31, vr32, vr33, vr34, opS, fpS, okP, pack, nAl, allocA, shId, leaves, fillA, fillR, splice, Nat.reduceLT, Nat.reduceEqDiff, Nat.reduceLeDiff, Nat.reduceAdd, Nat.reduceSub, Nat.reduceMul, Int.reduceBEq, Int.reduceBNe, Int.reduceLT, Int.reduceLE, Int.reduceEq, reduceIte, reduceCtorEq, h0]
    · simp only [↓vp, vq0, vq1, vq2, vq3, vr0, vr1, vr2, vr3, vr4, vr5, vr6, vr7, vr8, vr9, vr10, vr11, vr12, vr13, vr14, vr15, vr16, vr17, vr18, vr19, vr20, vr21, vr22, vr23, vr24, vr25, vr26, vr27, vr28, vr29, vr30, vr31, vr32, vr33, vr34, opS, fpS, okP, pack, nAl, allocA, shId, leaves, fillA, fillR, splice, Nat.reduceLT, Nat.reduceEqDiff, Nat.reduceLeDiff, Nat.reduceAdd, Nat.reduceSub, Nat.reduceMul, Int.reduceBEq, Int.reduceBNe, Int.reduceLT, Int.reduceLE, Int.reduceEq, reduceIte, reduceCtorEq, h3, hc, sumM]
  | succ d ih =>
    intro i s K f hd hc h0 h6 h7 h3 h8
    have g : ((i : Int) < l.length) = True := by simp; omega
    have gi : i < l.length := by omega
    rw [AW_loop]
    unfold c13L0
    rw [List.drop_eq_getElem_cons gi, sumM] at hc
    have w1 := wrap_succ (show i < 9223372036854775807 by omega)
    simp only [↓vp, vq0, vq1, vq2, vq3, vr0, vr1, vr2, vr3, vr4, vr5, vr6, vr7, vr8, vr9, vr10, vr11, vr12, vr13, vr14, vr15, vr16, vr17, vr18, vr19, vr20, vr21, vr22, vr23, vr24, vr25, vr26, vr27, vr28, vr29, vr30, vr31, vr32, vr33, vr34, opS, fpS, okP, pack, nAl, allocA, shId, leaves, fillA, fillR, splice, Nat.reduceLT, Nat.reduceEqDiff, Nat.reduceLeDiff, Nat.reduceAdd, Nat.reduceSub, Nat.reduceMul, Int.reduceBEq, Int.reduceBNe, Int.reduceLT, Int.reduceLE, Int.reduceEq, reduceIte, reduceCtorEq, int, boolA, lenI, lenK, h0, h3, h6, h7, h8, g, atL gi, cL gi, namedC, nodeC, one_I, one_K, w1]
    rw [← hx_nil (hx K _)]
    refine ih (i + 1) _ _ _ (by omega) hc ?_ ?_ ?_ ?_ ?_ <;> simp only [↓vp, vq0, vq1, vq2, vq3, vr0, vr1, vr2, vr3, vr4, vr5, vr6, vr7, vr8, vr9, vr10, vr11, vr12, vr13, vr14, vr15, vr16, vr17, vr18, vr19, vr20, vr21, vr22, vr23, vr24, vr25, vr26, vr27, vr28, vr29, vr30, vr31, vr32, vr33, vr34, opS, fpS, okP, pack, nAl, allocA, shId, leaves, fillA, fillR, splice, Nat.reduceLT, Nat.reduceEqDiff, Nat.reduceLeDiff, Nat.reduceAdd, Nat.reduceSub, Nat.reduceMul, Int.reduceBEq, Int.reduceBNe, Int.reduceLT, Int.reduceLE, Int.reduceEq, reduceIte, reduceCtorEq, h0, h3, h6, h7, int]
theorem s13 (l : List NamedM) (hl : okL l) (H : Heap) : callL ft (.fn (.func 13) [] []) [encL l] H = some (boolA (fewM l), H) := by
  refine call_p (as' := [encL l]) rfl rfl (by simp) ?_
  unfold c13 r13
  simp only [↓vp, vq0, vq1, vq2, vq3, vr0, vr1, vr2, vr3, vr4, vr5, vr6, vr7, vr8, vr9, vr10, vr11, vr12, vr13, vr14, vr15, vr16, vr17, vr18, vr19, vr20, vr21, vr22, vr23, vr24, vr25, vr26, vr27, vr28, vr29, vr30, vr31, vr32, vr33, vr34, opS, fpS, okP, pack, nAl, allocA, shId, leaves, fillA, fillR, splice, Nat.reduceLT, Nat.reduceEqDiff, Nat.reduceLeDiff, Nat.reduceAdd, Nat.reduceSub, Nat.reduceMul, Int.reduceBEq, Int.reduceBNe, Int.reduceLT, Int.reduceLE, Int.reduceEq, reduceIte, reduceCtorEq, lenL]
  refine l13 l hl (fun f' K h0 h3 => ?_) l.length 0 0 _ _ (by omega) rfl ?_ ?_ ?_ ?_ ?_
  · unfold c13R1
    cases e : decide ((l.length : Int) ≤ 40) with
    | true =>
      simp only [↓vp, vq0, vq1, vq2, vq3, vr0, vr1, vr2, vr3, vr4, vr5, vr6, vr7, vr8, vr9, vr10, vr11, vr12, vr13, vr14, vr15, vr16, vr17, vr18, vr19, vr20, vr21, vr22, vr23, vr24, vr25, vr26, vr27, vr28, vr29, vr30, vr31, vr32, vr33, vr34, opS, fpS, okP, pack, nAl, allocA, shId, leaves, fillA, fillR, splice, Nat.reduceLT, Nat.reduceEqDiff, Nat.reduceLeDiff, Nat.reduceAdd, Nat.reduceSub, Nat.reduceMul, Int.reduceBEq, Int.reduceBNe, Int.reduceLT, Int.reduceLE, Int.reduceEq, reduceIte, reduceCtorEq, h0, h3, lenL, int, e]
      refine ret1 rfl (by decide) ?_
      simp only [↓vp, vq0, vq1, vq2, vq3, vr0, vr1, vr2, vr3, vr4, vr5, vr6, vr7, vr8, vr9, vr10, vr11, vr12, vr13, vr14, vr15, vr16, vr17, vr18, vr19, vr20, vr21, vr22, vr23, vr24, vr25, vr26, vr27, vr28, vr29, vr30, vr31, vr32, vr33, vr34, opS, fpS, okP, pack, nAl, allocA, shId, leaves, fillA, fillR, splice, Nat.reduceLT, Nat.reduceEqDiff, Nat.reduceLeDiff, Nat.reduceAdd, Nat.reduceSub, Nat.reduceMul, Int.reduceBEq, Int.reduceBNe, Int.reduceLT, Int.reduceLE, Int.reduceEq, reduceIte, reduceCtorEq, fewM, e]
      exact ⟨_, rfl⟩
    | false =>
      simp only [↓vp, vq0, vq1, vq2, vq3, vr0, vr1, vr2, vr3, vr4, vr5, vr6, vr7, vr8, vr9, vr10, vr11, vr12, vr13, vr14, vr15, vr16, vr17, vr18, vr19, vr20, vr21, vr22, vr23, vr24, vr25, vr26, vr27, vr28, vr29, vr30, vr31, vr32, vr33, vr34, opS, fpS, okP, pack, nAl, allocA, shId, leaves, fillA, fillR, splice, Nat.reduceLT, Nat.reduceEqDiff, Nat.reduceLeDiff, Nat.reduceAdd, Nat.reduceSub, Nat.reduceMul, Int.reduceBEq, Int.reduceBNe, Int.reduceLT, Int.reduceLE, Int.reduceEq, reduceIte, reduceCtorEq, h0, h3, lenL, int, e]
      refine ret1 rfl (by decide) ?_
      simp only [↓vp, vq0, vq1, vq2, vq3, vr0, vr1, vr2, vr3, vr4, vr5, vr6, vr7, vr8, vr9, vr10, vr11, vr12, vr13, vr14, vr15, vr16, vr17, vr18, vr19, vr20, vr21, vr22, vr23, vr24, vr25, vr26, vr27, vr28, vr29, vr30, vr31, vr32, vr33, vr34, opS, fpS, okP, pack, nAl, allocA, shId, leaves, fillA, fillR, splice, Nat.reduceLT, Nat.reduceEqDiff, Nat.reduceLeDiff, Nat.reduceAdd, Nat.reduceSub, Nat.reduceMul, Int.reduceBEq, Int.reduceBNe, Int.reduceLT, Int.reduceLE, Int.reduceEq, reduceIte, reduceCtorEq, fewM, e, Bool.false_and]
      exact ⟨_, rfl⟩
  all_goals first | rfl | (simp only [↓vp, vq0, vq1, vq2, vq3, vr0, vr1, vr2, vr3, vr4, vr5, vr6, vr7, vr8, vr9, vr10, vr11, vr12, vr13, vr14, vr15, vr16, vr17, vr18, vr19, vr20, vr21, vr22, vr23, vr24, vr25, vr26, vr27, vr28, vr29, vr30, vr31, vr32, vr33, vr34, opS, fpS, okP, pack, nAl, allocA, shId, leaves, fillA, fillR, splice, Nat.reduceLT, Nat.reduceEqDiff, Nat.reduceLeDiff, Nat.reduceAdd, Nat.reduceSub, Nat.reduceMul, Int.reduceBEq, Int.reduceBNe, Int.reduceLT, Int.reduceLE, Int.reduceEq, reduceIte, reduceCtorEq, da, int, boolA]; done)

/-! ### nodes alike -/
theorem k23 {x y : ItemM} (h1 : okIt x) (h2 : okIt y) {K : Heap} {L : List Blk} {Q : AV → Heap → Prop} : KW ft (.fn (.func 23) [] []) [.agg (itemC x), .agg (itemC y)] (hx K L) Q ↔ Q (boolA (sameI x y)) (hx K L) := KW_of (s23 x y h1 h2 _)
def sameIs : List ItemM → List ItemM → Bool
  | x :: a, y :: b => sameI x y && sameIs a b
  | _, _ => true
def sameK (x y : KidM) : Bool := x.ref == y.ref && cmpB x.key y.key == 0
def sameKs : List KidM → List KidM → Bool
  | x :: a, y :: b => sameK x y && sameKs a b
  | _, _ => true
def sameN (a b : NodeM) : Bool := a.leaf == b.leaf && a.items.length == b.items.length && a.kids.length == b.kids.length && sameIs a.items b.items && sameKs a.kids b.kids
theorem l52a (a b : NodeM) (ha : okN a) (hb : okN b) (hl : a.items.length = b.items.length) {L : List Blk} {Q : AExit → Env → Heap → Prop} (hL : L[0]? = some (.box false (nodeC a))) (hL1 : L[1]? = some (.box false (nodeC b)))
   (hex : ∀ f' L', L'[0]? = some (.box false (nodeC a)) → L'[1]? = some (.box false (nodeC b)) → f' 2 = .ptr 0 0 0 → f' 3 = .ptr 1 0 0 → sameIs a.items b.items = true → Q (.exit 0) (mkE 85 f') (hx Heap.empty L'))
   (hret : ∀ f' L', sameIs a.items b.items = false → f' 4 = boolA false → Q .ret (mkE 85 f') (hx Heap.empty L')) :
   ∀ (d i : Nat) (f : Nat → AV), i + d = a.items.length → sameIs a.items b.items = sameIs (a.items.drop i) (b.items.drop i) → f 2 = .ptr 0 0 0 → f 3 = .ptr 1 0 0 → f 5 = int i →
    AW ft (.loop c52L0) (mkE 85 f) (hx Heap.empty L) Q := by
  intro d
  have hi := ha.i.n
  unfold MX at hi
  induction d with
  | zero =>
    intro i f hd hc h2 h3 h5
    have g : ((i : Int) < a.items.length) = False := by simp; omega
    rw [AW_loop]
    unfold c52L0
    rw [List.drop_eq_nil_of_le (by omega)] at hc
    simp only [↓vp, vq0, vq1, vq2, vq3, vr0, vr1, vr2, vr3, vr4, vr5, vr6, vr7, vr8, vr9, vr10, vr11, vr12, vr13, vr14, vr15, vr16, vr17, vr18, vr19, vr20, vr21, vr22, vr23, vr24, vr25, vr26, vr27, vr28, vr29, vr30, vr31, vr32, vr33, vr34, opS, fpS, okP, pack, nAl, allocA, shId, leaves, fillA, fillR, splice, Nat.reduceLT, Nat.reduceEqDiff, Nat.reduceLeDiff, Nat.reduceAdd, Nat.reduceSub, Nat.reduceMul, Int.reduceBEq, Int.reduceBNe, Int.reduceLT, Int.reduceLE, Int.reduceEq, reduceIte, reduceCtorEq, hL, nodeC, int, boolA, lenI, h2, h3, h5, g]
    refine hex _ _ hL hL1 ?_ ?_ (by rw [hc]; rfl) <;> simp only [↓vp, vq0, vq1, vq2, vq3, vr0, vr1, vr2, vr3, vr4, vr5, vr6, vr7, vr8, vr9, vr10, vr11, vr12, vr13, vr14, vr15, vr16, vr17, vr18, vr19, vr20, vr21, vr22, vr23, vr24, vr25, vr26, vr27, vr28, vr29, vr30, vr31, vr32, vr33, vr34, opS, fpS, okP, pack, nAl, allocA, shId, leaves, fillA, fillR, splice, Nat.reduceLT, Nat.reduceEqDiff, Nat.reduceLeDiff, Nat.reduceAdd, Nat.reduceSub, Nat.reduceMul, Int.reduceBEq, Int.reduceBNe, Int.reduceLT, Int.reduceLE, Int.reduceEq, reduceIte, reduceCtorEq, h2, h3]
  | succ d ih =>
    intro i f hd hc h2 h3 h5
    have g : ((i : Int) < a.items.length) = True := by simp; omega
    have gi : i < a.items.length := by omega
    have gj : i < b.items.length := by omega
    have o1 := ha.i.at_ gi
    have o2 := hb.i.at_ gj
    rw [AW_loop]
    unfold c52L0
    rw [List.drop_eq_getElem_cons gi, List.drop_eq_getElem_cons gj, sameIs] at hc
    have w1 := wrap_succ (show i < 9223372036854775807 by omega)
    cases e1 : sameI a.items[i] b.items[i] with
    | false =>
      simp only [↓vp, vq0, vq1, vq2, vq3, vr0, vr1, vr2, vr3, vr4, vr5, vr6, vr7, vr8, vr9, vr10, vr11, vr12, vr13, vr14, vr15, vr16, vr17, vr18, vr19, vr20, vr21, vr22, vr23, vr24, vr25, vr26, vr27, vr28, vr29, vr30, vr31, vr32, vr33, vr34, opS, fpS, okP, pack, nAl, allocA, shId, leaves, fillA, fillR, splice, Nat.reduceLT, Nat.reduceEqDiff, Nat.reduceLeDiff, Nat.reduceAdd, Nat.reduceSub, Nat.reduceMul, Int.reduceBEq, Int.reduceBNe, Int.reduceLT, Int.reduceLE, Int.reduceEq, reduceIte, reduceCtorEq, da, int, boolA, hL, hL1, h2, h3, h5, g, atI gi, cI gi, atI gj, cI gj, k23, o1, o2, e1]
      refine hret _ _ (by rw [hc, e1, Bool.false_and]) ?_
      simp only [↓vp, vq0, vq1, vq2, vq3, vr0, vr1, vr2, vr3, vr4, vr5, vr6, vr7, vr8, vr9, vr10, vr11, vr12, vr13, vr14, vr15, vr16, vr17, vr18, vr19, vr20, vr21, vr22, vr23, vr24, vr25, vr26, vr27, vr28, vr29, vr30, vr31, vr32, vr33, vr34, opS, fpS, okP, pack, nAl, allocA, shId, leaves, fillA, fillR, splice, Nat.reduceLT, Nat.reduceEqDiff, Nat.reduceLeDiff, Nat.reduceAdd, Nat.reduceSub, Nat.reduceMul, Int.reduceBEq, Int.reduceBNe, Int.reduceLT, Int.reduceLE, Int.reduceEq, reduceIte, reduceCtorEq, da, int, boolA]
    | true =>
      simp only [↓vp, vq0, vq1, vq2, vq3, vr0, vr1, vr2, vr3, vr4, vr5, vr6, vr7, vr8, vr9, vr10, vr11, vr12, vr13, vr14, vr15, vr16, vr17, vr18, vr19, vr20, vr21, vr22, vr23, vr24, vr25, vr26, vr27, vr28, vr29, vr30, vr31, vr32, vr33, vr34, opS, fpS, okP, pack, nAl, allocA, shId, leaves, fillA, fillR, splice, Nat.reduceLT, Nat.reduceEqDiff, Nat.reduceLeDiff, Nat.reduceAdd, Nat.reduceSub, Nat.reduceMul, Int.reduceBEq, Int.reduceBNe, Int.reduceLT, Int.reduceLE, Int.reduceEq, reduceIte, reduceCtorEq, da, int, boolA, hL, hL1, h2, h3, h5, g, atI gi, cI gi, atI gj, cI gj, k23, o1, o2, e1, w1]
      refine ih (i + 1) _ (by omega) (by rw [hc, e1, Bool.true_and]) ?_ ?_ ?_ <;> simp only [↓vp, vq0, vq1, vq2, vq3, vr0, vr1, vr2, vr3, vr4, vr5, vr6, vr7, vr8, vr9, vr10, vr11, vr12, vr13, vr14, vr15, vr16, vr17, vr18, vr19, vr20, vr21, vr22, vr23, vr24, vr25, vr26, vr27, vr28, vr29, vr30, vr31, vr32, vr33, vr34, opS, fpS, okP, pack, nAl, allocA, shId, leaves, fillA, fillR, splice, Nat.reduceLT, Nat.reduceEqDiff, Nat.reduceLeDiff, Nat.reduceAdd, Nat.reduceSub, Nat.reduceMul, Int.reduceBEq, Int.reduceBNe, Int.reduceLT, Int.reduceLE, Int.reduceEq, reduceIte, reduceCtorEq, da, int, boolA, h2, h3]
theorem l52b (a b : NodeM) (ha : okN a) (hb : okN b) (hl : a.kids.length = b.kids.length) {L : List Blk} {Q : AExit → Env → Heap → Prop} (hL : L[0]? = some (.box false (nodeC a))) (hL1 : L[1]? = some (.box false (nodeC b)))
   (hex : ∀ f', sameKs a.kids b.kids = true → Q (.exit 2) (mkE 85 f') (hx Heap.empty L))
   (hret : ∀ f', sameKs a.kids b.kids = false → f' 4 = boolA false → Q .ret (mkE 85 f') (hx Heap.empty L)) :
   ∀ (d i : Nat) (f : Nat → AV), i + d = a.kids.length → sameKs a.kids b.kids = sameKs (a.kids.drop i) (b.kids.drop i) → f 2 = .ptr 0 0 0 → f 3 = .ptr 1 0 0 → f 6 = int i →
    AW ft (.loop c52L1) (mkE 85 f) (hx Heap.empty L) Q := by
  intro d
  have hi := ha.k.n
  unfold MX at hi
  induction d with
  | zero =>
    intro i f hd hc h2 h3 h5
    have g : ((i : Int) < a.kids.length) = False := by simp; omega
    rw [AW_loop]
    unfold c52L1
    rw [List.drop_eq_nil_of_le (by omega)] at hc
    simp only [↓vp, vq0, vq1, vq2, vq3, vr0, vr1, vr2, vr3, vr4, vr5, vr6, vr7, vr8, vr9, vr10, vr11, vr12, vr13, vr14, vr15, vr16, vr17, vr18, vr19, vr20, vr21, vr22, vr23, vr24, vr25, vr26, vr27, vr28, vr29, vr30, vr31, vr32, vr33, vr34, opS, fpS, okP, pack, nAl, allocA, shId, leaves, fillA, fillR, splice, Nat.reduceLT, Nat.reduceEqDiff, Nat.reduceLeDiff, Nat.reduceAdd, Nat.reduceSub, Nat.reduceMul, Int.reduceBEq, Int.reduceBNe, Int.reduceLT, Int.reduceLE, Int.reduceEq, reduceIte, reduceCtorEq, da, int, boolA, hL, h2, h3, h5, g]
    exact hex _ (by rw [hc]; rfl)
  | succ d ih =>
    intro i f hd hc h2 h3 h5
    have g : ((i : Int) < a.kids.length) = True := by simp; omega
    have gi : i < a.kids.length := by omega
    have gj : i < b.kids.length := by omega
    have o1 := ha.k.at_ gi
    have o2 := hb.k.at_ gj
    rw [AW_loop]
    unfold c52L1
    rw [List.drop_eq_getElem_cons gi, List.drop_eq_getElem_cons gj, sameKs] at hc
    have w1 := wrap_succ (show i < 9223372036854775807 by omega)
    cases e1 : a.kids[i].ref == b.kids[i].ref with
    | false =>
      have e1' : (a.kids[i].ref != b.kids[i].ref) = true := by rw [bne, e1]; rfl
      simp only [↓vp, vq0, vq1, vq2, vq3, vr0, vr1, vr2, vr3, vr4, vr5, vr6, vr7, vr8, vr9, vr10, vr11, vr12, vr13, vr14, vr15, vr16, vr17, vr18, vr19, vr20, vr21, vr22, vr23, vr24, vr25, vr26, vr27, vr28, vr29, vr30, vr31, vr32, vr33, vr34, opS, fpS, okP, pack, nAl, allocA, shId, leaves, fillA, fillR, splice, Nat.reduceLT, Nat.reduceEqDiff, Nat.reduceLeDiff, Nat.reduceAdd, Nat.reduceSub, Nat.reduceMul, Int.reduceBEq, Int.reduceBNe, Int.reduceLT, Int.reduceLE, Int.reduceEq, reduceIte, reduceCtorEq, da, int, boolA, hL, hL1, h2, h3, h5, g, atK gi, cK gi, atK gj, cK gj, k25, o1, o2, e1']
      refine hret _ (by rw [hc, sameK, e1, Bool.false_and, Bool.false_and]) ?_
      simp only [↓vp, vq0, vq1, vq2, vq3, vr0, vr1, vr2, vr3, vr4, vr5, vr6, vr7, vr8, vr9, vr10, vr11, vr12, vr13, vr14, vr15, vr16, vr17, vr18, vr19, vr20, vr21, vr22, vr23, vr24, vr25, vr26, vr27, vr28, vr29, vr30, vr31, vr32, vr33, vr34, opS, fpS, okP, pack, nAl, allocA, shId, leaves, fillA, fillR, splice, Nat.reduceLT, Nat.reduceEqDiff, Nat.reduceLeDiff, Nat.reduceAdd, Nat.reduceSub, Nat.reduceMul, Int.reduceBEq, Int.reduceBNe, Int.reduceLT, Int.reduceLE, Int.reduceEq, reduceIte, reduceCtorEq, da, int, boolA]
    | true =>
      have e1' : (a.kids[i].ref != b.kids[i].ref) = false := by rw [bne, e1]; rfl
      cases e2 : cmpB a.kids[i].key b.kids[i].key == 0 with
      | false =>
        have e2' : (cmpB a.kids[i].key b.kids[i].key != 0) = true := by rw [bne, e2]; rfl
        simp only [↓vp, vq0, vq1, vq2, vq3, vr0, vr1, vr2, vr3, vr4, vr5, vr6, vr7, vr8, vr9, vr10, vr11, vr12, vr13, vr14, vr15, vr16, vr17, vr18, vr19, vr20, vr21, vr22, vr23, vr24, vr25, vr26, vr27, vr28, vr29, vr30, vr31, vr32, vr33, vr34, opS, fpS, okP, pack, nAl, allocA, shId, leaves, fillA, fillR, splice, Nat.reduceLT, Nat.reduceEqDiff, Nat.reduceLeDiff, Nat.reduceAdd, Nat.reduceSub, Nat.reduceMul, Int.reduceBEq, Int.reduceBNe, Int.reduceLT, Int.reduceLE, Int.reduceEq, reduceIte, reduceCtorEq, da, int, boolA, hL, hL1, h2, h3, h5, g, atK gi, cK gi, atK gj, cK gj, k25, o1, o2, e1', e2']
        refine hret _ (by rw [hc, sameK, e1, e2, Bool.true_and, Bool.false_and]) ?_
        simp only [↓vp, vq0, vq1, vq2, vq3, vr0, vr1, vr2, vr3, vr4, vr5, vr6, vr7, vr8, vr9, vr10, vr11, vr12, vr13, vr14, vr15, vr16, vr17, vr18, vr19, vr20, vr21, vr22, vr23, vr24, vr25, vr26, vr27, vr28, vr29, vr30, vr31, vr32, vr33, vr34, opS, fpS, okP, pack, nAl, allocA, shId, leaves, fillA, fillR, splice, Nat.reduceLT, Nat.reduceEqDiff, Nat.reduceLeDiff, Nat.reduceAdd, Nat.reduceSub, Nat.reduceMul, Int.reduceBEq, Int.reduceBNe, Int.reduceLT, Int.reduceLE, Int.reduceEq, reduceIte, reduceCtorEq, da, int, boolA]
      | true =>
        have e2' : (cmpB a.kids[i].key b.kids[i].key != 0) = false := by rw [bne, e2]; rfl
        simp only [↓vp, vq0, vq1, vq2, vq3, vr0, vr1, vr2, vr3, vr4, vr5, vr6, vr7, vr8, vr9, vr10, vr11, vr12, vr13, vr14, vr15, vr16, vr17, vr18, vr19, vr20, vr21, vr22, vr23, vr24, vr25, vr26, vr27, vr28, vr29, vr30, vr31, vr32, vr33, vr34, opS, fpS, okP, pack, nAl, allocA, shId, leaves, fillA, fillR, splice, Nat.reduceLT, Nat.reduceEqDiff, Nat.reduceLeDiff, Nat.reduceAdd, Nat.reduceSub, Nat.reduceMul, Int.reduceBEq, Int.reduceBNe, Int.reduceLT, Int.reduceLE, Int.reduceEq, reduceIte, reduceCtorEq, da, int, boolA, hL, hL1, h2, h3, h5, g, atK gi, cK gi, atK gj, cK gj, k25, o1, o2, e1', e2', w1]
        refine ih (i + 1) _ (by omega) (by rw [hc, sameK, e1, e2, Bool.true_and, Bool.true_and]) ?_ ?_ ?_ <;> simp only [↓vp, vq0, vq1, vq2, vq3, vr0, vr1, vr2, vr3, vr4, vr5, vr6, vr7, vr8, vr9, vr10, vr11, vr12, vr13, vr14, vr15, vr16, vr17, vr18, vr19, vr20, vr21, vr22, vr23, vr24, vr25, vr26, vr27, vr28, vr29, vr30, vr31, vr32, vr33, vr34, opS, fpS, okP, pack, nAl, allocA, shId, leaves, fillA, fillR, splice, Nat.reduceLT, Nat.reduceEqDiff, Nat.reduceLeDiff, Nat.reduceAdd, Nat.reduceSub, Nat.reduceMul, Int.reduceBEq, Int.reduceBNe, Int.reduceLT, Int.reduceLE, Int.reduceEq, reduceIte, reduceCtorEq, da, int, boolA, h2, h3]
theorem s52 (a b : NodeM) (ha : okN a) (hb : okN b) (H : Heap) : callL ft (.fn (.func 52) [] []) [.agg (nodeC a), .agg (nodeC b)] H = some (boolA (sameN a b), H) := by
  refine call_p (as' := [.agg (nodeC a), .agg (nodeC b)]) rfl rfl (by simp) ?_
  unfold c52 r52
  have no : ∀ {f : Nat → AV} {H : Heap}, f 4 = boolA false → sameN a b = false → RetP [.tmp 4] (boolA (sameN a b)) .ret (mkE 85 f) H := fun h1 h2 => ret1 rfl (by decide) ⟨_, by rw [h1, h2]; rfl⟩
  cases e1 : a.leaf == b.leaf with
  | false =>
    simp only [↓vp, vq0, vq1, vq2, vq3, vr0, vr1, vr2, vr3, vr4, vr5, vr6, vr7, vr8, vr9, vr10, vr11, vr12, vr13, vr14, vr15, vr16, vr17, vr18, vr19, vr20, vr21, vr22, vr23, vr24, vr25, vr26, vr27, vr28, vr29, vr30, vr31, vr32, vr33, vr34, opS, fpS, okP, pack, nAl, allocA, shId, leaves, fillA, fillR, splice, Nat.reduceLT, Nat.reduceEqDiff, Nat.reduceLeDiff, Nat.reduceAdd, Nat.reduceSub, Nat.reduceMul, Int.reduceBEq, Int.reduceBNe, Int.reduceLT, Int.reduceLE, Int.reduceEq, reduceIte, reduceCtorEq, da, int, boolA, e1]
    exact no (by simp only [↓vp, vq0, vq1, vq2, vq3, vr0, vr1, vr2, vr3, vr4, vr5, vr6, vr7, vr8, vr9, vr10, vr11, vr12, vr13, vr14, vr15, vr16, vr17, vr18, vr19, vr20, vr21, vr22, vr23, vr24, vr25, vr26, vr27, vr28, vr29, vr30, vr31, vr32, vr33, vr34, opS, fpS, okP, pack, nAl, allocA, shId, leaves, fillA, fillR, splice, Nat.reduceLT, Nat.reduceEqDiff, Nat.reduceLeDiff, Nat.reduceAdd, Nat.reduceSub, Nat.reduceMul, Int.reduceBEq, Int.reduceBNe, Int.reduceLT, Int.reduceLE, Int.reduceEq, reduceIte, reduceCtorEq, da, int, boolA]) (by simp [sameN, e1])
  | true =>
    cases e2 : a.items.length == b.items.length with
    | false =>
      have e2' : ((a.items.length : Int) != b.items.length) = true := by
        have : a.items.length ≠ b.items.length := by simpa using e2
        simp; omega
      simp only [↓vp, vq0, vq1, vq2, vq3, vr0, vr1, vr2, vr3, vr4, vr5, vr6, vr7, vr8, vr9, vr10, vr11, vr12, vr13, vr14, vr15, vr16, vr17, vr18, vr19, vr20, vr21, vr22, vr23, vr24, vr25, vr26, vr27, vr28, vr29, vr30, vr31, vr32, vr33, vr34, opS, fpS, okP, pack, nAl, allocA, shId, leaves, fillA, fillR, splice, Nat.reduceLT, Nat.reduceEqDiff, Nat.reduceLeDiff, Nat.reduceAdd, Nat.reduceSub, Nat.reduceMul, Int.reduceBEq, Int.reduceBNe, Int.reduceLT, Int.reduceLE, Int.reduceEq, reduceIte, reduceCtorEq, da, int, boolA, e1, e2']
      exact no (by simp only [↓vp, vq0, vq1, vq2, vq3, vr0, vr1, vr2, vr3, vr4, vr5, vr6, vr7, vr8, vr9, vr10, vr11, vr12, vr13, vr14, vr15, vr16, vr17, vr18, vr19, vr20, vr21, vr22, vr23, vr24, vr25, vr26, vr27, vr28, vr29, vr30, vr31, vr32, vr33, vr34, opS, fpS, okP, pack, nAl, allocA, shId, leaves, fillA, fillR, splice, Nat.reduceLT, Nat.reduceEqDiff, Nat.reduceLeDiff, Nat.reduceAdd, Nat.reduceSub, Nat.reduceMul, Int.reduceBEq, Int.reduceBNe, Int.reduceLT, Int.reduceLE, Int.reduceEq, reduceIte, reduceCtorEq, da, int, boolA]) (by simp [sameN, e1, e2])
    | true =>
      have h2 : a.items.length = b.items.length := by simpa using e2
      have e2' : ((a.items.length : Int) != b.items.length) = false := by simp; omega
      cases e3 : a.kids.length == b.kids.length with
      | false =>
        have e3' : ((a.kids.length : Int) != b.kids.length) = true := by
          have : a.kids.length ≠ b.kids.length := by simpa using e3
          simp; omega
        simp only [↓vp, vq0, vq1, vq2, vq3, vr0, vr1, vr2, vr3, vr4, vr5, vr6, vr7, vr8, vr9, vr10, vr11, vr12, vr13, vr14, vr15, vr16, vr17, vr18, vr19, vr20, vr21, vr22, vr23, vr24, vr25, vr26, vr27, vr28, vr29, vr30, vr31, vr32, vr33, vr34, opS, fpS, okP, pack, nAl, allocA, shId, leaves, fillA, fillR, splice, Nat.reduceLT, Nat.reduceEqDiff, Nat.reduceLeDiff, Nat.reduceAdd, Nat.reduceSub, Nat.reduceMul, Int.reduceBEq, Int.reduceBNe, Int.reduceLT, Int.reduceLE, Int.reduceEq, reduceIte, reduceCtorEq, da, int, boolA, e1, e2', e3']
        exact no (by simp only [↓vp, vq0, vq1, vq2, vq3, vr0, vr1, vr2, vr3, vr4, vr5, vr6, vr7, vr8, vr9, vr10, vr11, vr12, vr13, vr14, vr15, vr16, vr17, vr18, vr19, vr20, vr21, vr22, vr23, vr24, vr25, vr26, vr27, vr28, vr29, vr30, vr31, vr32, vr33, vr34, opS, fpS, okP, pack, nAl, allocA, shId, leaves, fillA, fillR, splice, Nat.reduceLT, Nat.reduceEqDiff, Nat.reduceLeDiff, Nat.reduceAdd, Nat.reduceSub, Nat.reduceMul, Int.reduceBEq, Int.reduceBNe, Int.reduceLT, Int.reduceLE, Int.reduceEq, reduceIte, reduceCtorEq, da, int, boolA]) (by simp [sameN, e1, e2, e3])
      | true =>
        have h3 : a.kids.length = b.kids.length := by simpa using e3
        have e3' : ((a.kids.length : Int) != b.kids.length) = false := by simp; omega
        simp only [↓vp, vq0, vq1, vq2, vq3, vr0, vr1, vr2, vr3, vr4, vr5, vr6, vr7, vr8, vr9, vr10, vr11, vr12, vr13, vr14, vr15, vr16, vr17, vr18, vr19, vr20, vr21, vr22, vr23, vr24, vr25, vr26, vr27, vr28, vr29, vr30, vr31, vr32, vr33, vr34, opS, fpS, okP, pack, nAl, allocA, shId, leaves, fillA, fillR, splice, Nat.reduceLT, Nat.reduceEqDiff, Nat.reduceLeDiff, Nat.reduceAdd, Nat.reduceSub, Nat.reduceMul, Int.reduceBEq, Int.reduceBNe, Int.reduceLT, Int.reduceLE, Int.reduceEq, reduceIte, reduceCtorEq, da, int, boolA, e1, e2', e3']
        refine l52a a b ha hb h2 rfl rfl (fun f' L' g0 g1 p2 p3 hs => ?_) (fun f' L' hs h4 => ?_) a.items.length 0 _ (by omega) rfl ?_ ?_ ?_
        · unfold c52R3
          simp only [↓vp, vq0, vq1, vq2, vq3, vr0, vr1, vr2, vr3, vr4, vr5, vr6, vr7, vr8, vr9, vr10, vr11, vr12, vr13, vr14, vr15, vr16, vr17, vr18, vr19, vr20, vr21, vr22, vr23, vr24, vr25, vr26, vr27, vr28, vr29, vr30, vr31, vr32, vr33, vr34, opS, fpS, okP, pack, nAl, allocA, shId, leaves, fillA, fillR, splice, Nat.reduceLT, Nat.reduceEqDiff, Nat.reduceLeDiff, Nat.reduceAdd, Nat.reduceSub, Nat.reduceMul, Int.reduceBEq, Int.reduceBNe, Int.reduceLT, Int.reduceLE, Int.reduceEq, reduceIte, reduceCtorEq, da, int, boolA]
          refine l52b a b ha hb h3 g0 g1 (fun f'' hk => ?_) (fun f'' hk h4 => ?_) a.kids.length 0 _ (by omega) rfl ?_ ?_ ?_
          · unfold c52R2
            simp only [↓vp, vq0, vq1, vq2, vq3, vr0, vr1, vr2, vr3, vr4, vr5, vr6, vr7, vr8, vr9, vr10, vr11, vr12, vr13, vr14, vr15, vr16, vr17, vr18, vr19, vr20, vr21, vr22, vr23, vr24, vr25, vr26, vr27, vr28, vr29, vr30, vr31, vr32, vr33, vr34, opS, fpS, okP, pack, nAl, allocA, shId, leaves, fillA, fillR, splice, Nat.reduceLT, Nat.reduceEqDiff, Nat.reduceLeDiff, Nat.reduceAdd, Nat.reduceSub, Nat.reduceMul, Int.reduceBEq, Int.reduceBNe, Int.reduceLT, Int.reduceLE, Int.reduceEq, reduceIte, reduceCtorEq, da, int, boolA]
            refine ret1 rfl (by decide) ?_
            simp only [↓vp, vq0, vq1, vq2, vq3, vr0, vr1, vr2, vr3, vr4, vr5, vr6, vr7, vr8, vr9, vr10, vr11, vr12, vr13, vr14, vr15, vr16, vr17, vr18, vr19, vr20, vr21, vr22, vr23, vr24, vr25, vr26, vr27, vr28, vr29, vr30, vr31, vr32, vr33, vr34, opS, fpS, okP, pack, nAl, allocA, shId, leaves, fillA, fillR, splice, Nat.reduceLT, Nat.reduceEqDiff, Nat.reduceLeDiff, Nat.reduceAdd, Nat.reduceSub, Nat.reduceMul, Int.reduceBEq, Int.reduceBNe, Int.reduceLT, Int.reduceLE, Int.reduceEq, reduceIte, reduceCtorEq, da, int, boolA, sameN, e1, e2, e3, hs, hk]
            exact ⟨_, rfl⟩
          · exact no h4 (by simp [sameN, e1, e2, e3, hs, hk])
          all_goals first | rfl | (simp only [↓vp, vq0, vq1, vq2, vq3, vr0, vr1, vr2, vr3, vr4, vr5, vr6, vr7, vr8, vr9, vr10, vr11, vr12, vr13, vr14, vr15, vr16, vr17, vr18, vr19, vr20, vr21, vr22, vr23, vr24, vr25, vr26, vr27, vr28, vr29, vr30, vr31, vr32, vr33, vr34, opS, fpS, okP, pack, nAl, allocA, shId, leaves, fillA, fillR, splice, Nat.reduceLT, Nat.reduceEqDiff, Nat.reduceLeDiff, Nat.reduceAdd, Nat.reduceSub, Nat.reduceMul, Int.reduceBEq, Int.reduceBNe, Int.reduceLT, Int.reduceLE, Int.reduceEq, reduceIte, reduceCtorEq, da, int, boolA, p2, p3]; done)
        · exact no h4 (by simp [sameN, e1, e2, e3, hs])
        all_goals first | rfl | (simp only [↓vp, vq0, vq1, vq2, vq3, vr0, vr1, vr2, vr3, vr4, vr5, vr6, vr7, vr8, vr9, vr10, vr11, vr12, vr13, vr14, vr15, vr16, vr17, vr18, vr19, vr20, vr21, vr22, vr23, vr24, vr25, vr26, vr27, vr28, vr29, vr30, vr31, vr32, vr33, vr34, opS, fpS, okP, pack, nAl, allocA, shId, leaves, fillA, fillR, splice, Nat.reduceLT, Nat.reduceEqDiff, Nat.reduceLeDiff, Nat.reduceAdd, Nat.reduceSub, Nat.reduceMul, Int.reduceBEq, Int.reduceBNe, Int.reduceLT, Int.reduceLE, Int.reduceEq, reduceIte, reduceCtorEq, da, int, boolA]; done)
theorem k52 {a b : NodeM} (ha : okN a) (hb : okN b) {K : Heap} {L : List Blk} {Q : AV → Heap → Prop} : KW ft (.fn (.func 52) [] []) [.agg (nodeC a), .agg (nodeC b)] (hx K L) Q ↔ Q (boolA (sameN a b)) (hx K L) := KW_of (s52 a b ha hb _)
end Go.VI
