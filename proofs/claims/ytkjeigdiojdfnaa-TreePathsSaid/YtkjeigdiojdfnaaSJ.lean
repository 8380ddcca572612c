/- VI, part SJ: steps alike; rising keys. -/
import Derived.Test.YtkjeigdiojdfnaaSI
set_option linter.unusedVariables false
set_option linter.unusedSimpArgs false
set_option maxRecDepth 100000
namespace Go.VI
attribute [local congr] AW_congr OW_congr DW_congr NW_congr VW_congr GW_congr PW_congr KW_congr ite_congr' GV_congr CV_congr

def okS (l : List StepM) : Prop := ∀ x ∈ l, okN x.n ∧ x.n.items.length ≤ 1000 ∧ x.n.kids.length ≤ 1000
def sameS (x y : StepM) : Bool := x.ref == y.ref && x.k == y.k && sameN x.n y.n
def sameSs : List StepM → List StepM → Bool
  | x :: a, y :: b => sameS x y && sameSs a b
  | _, _ => true
def stepsM (a b : List StepM) : Bool := a.length == b.length && sameSs a b
theorem l20 (a b : List StepM) (ha : okS a) (hb : okS b) (hl : a.length = b.length) (hi : a.length ≤ 12) {Q : AExit → Env → Heap → Prop}
   (hex : ∀ f' K, sameSs a b = true → Q (.exit 0) (mkE 56 f') (hx K []))
   (hret : ∀ f' K L, sameSs a b = false → f' 4 = boolA false → Q .ret (mkE 56 f') (hx K L)) :
   ∀ (d i : Nat) (f : Nat → AV) (K : Heap), i + d = a.length → sameSs a b = sameSs (a.drop i) (b.drop i) → f 0 = encS a → f 1 = encS b → f 12 = int a.length → f 13 = int i →
    AW ft (.loop c20L0) (mkE 56 f) (hx K []) Q := by
  intro d
  induction d with
  | zero =>
    intro i f K hd hc h0 h1 h12 h13
    have g : ((i : Int) < a.length) = False := eq_false (by omega)
    rw [AW_loop]
    unfold c20L0
    rw [List.drop_eq_nil_of_le (by omega)] at hc
    simp only [↓vp, vq0, vq1, vq2, vq3, vr0, vr1, vr2, vr3, vr4, vr5, vr6, vr7, vr8, vr9, vr10, vr11, vr12, vr13, vr14, vr15, vr16, vr17, vr18, vr19, vr20, vr21, vr22, vr23, vr24, vr25, vr26, vr27, vr28, vr29, vr30, vr31, vr32, vr33, vr34, opS, fpS, okP, pack, nAl, allocA, shId, leaves, fillA, fillR, splice, Nat.reduceLT, Nat.reduceEqDiff, Nat.reduceLeDiff, Nat.reduceAdd, Nat.reduceSub, Nat.reduceMul, Int.reduceBEq, Int.reduceBNe, Int.reduceLT, Int.reduceLE, Int.reduceEq, reduceIte, reduceCtorEq, da, int, boolA, h12, h13, g]
    exact hex _ _ (by rw [hc]; rfl)
  | succ d ih =>
    intro i f K hd hc h0 h1 h12 h13
    have g : ((i : Int) < a.length) = True := eq_true (by omega)
    have gi : i < a.length := by omega
    have gj : i < b.length := by omega
    obtain ⟨o1, t1, t1'⟩ := ha _ (List.getElem_mem gi)
    obtain ⟨o2, t2, t2'⟩ := hb _ (List.getElem_mem gj)
    have kp : pureV ft (.fn (.func 53) [] []) [.agg (nodeC a[i].n)] = true := rfl
    have kq : pureV ft (.fn (.func 52) [] []) [.agg (nodeC a[i].n), .agg (nodeC b[i].n)] = true := rfl
    rw [AW_loop]
    unfold c20L0
    rw [List.drop_eq_getElem_cons gi, List.drop_eq_getElem_cons gj, sameSs] at hc
    have w1 := wrap_succ (show i < 9223372036854775807 by omega)
    cases e1 : a[i].ref == b[i].ref with
    | false =>
      have e1' : (a[i].ref != b[i].ref) = true := by rw [bne, e1]; rfl
      simp only [↓vp, vq0, vq1, vq2, vq3, vr0, vr1, vr2, vr3, vr4, vr5, vr6, vr7, vr8, vr9, vr10, vr11, vr12, vr13, vr14, vr15, vr16, vr17, vr18, vr19, vr20, vr21, vr22, vr23, vr24, vr25, vr26, vr27, vr28, vr29, vr30, vr31, vr32, vr33, vr34, opS, fpS, okP, pack, nAl, allocA, shId, leaves, fillA, fillR, splice, Nat.reduceLT, Nat.reduceEqDiff, Nat.reduceLeDiff, Nat.reduceAdd, Nat.reduceSub, Nat.reduceMul, Int.reduceBEq, Int.reduceBNe, Int.reduceLT, Int.reduceLE, Int.reduceEq, reduceIte, reduceCtorEq, da, int, boolA, h0, h1, h12, h13, g, atS gi, cS gi, atS gj, cS gj, e1']
      refine hret _ _ _ (by rw [hc, sameS, e1, Bool.false_and, Bool.false_and, Bool.false_and]) ?_
      simp only [↓vp, vq0, vq1, vq2, vq3, vr0, vr1, vr2, vr3, vr4, vr5, vr6, vr7, vr8, vr9, vr10, vr11, vr12, vr13, vr14, vr15, vr16, vr17, vr18, vr19, vr20, vr21, vr22, vr23, vr24, vr25, vr26, vr27, vr28, vr29, vr30, vr31, vr32, vr33, vr34, opS, fpS, okP, pack, nAl, allocA, shId, leaves, fillA, fillR, splice, Nat.reduceLT, Nat.reduceEqDiff, Nat.reduceLeDiff, Nat.reduceAdd, Nat.reduceSub, Nat.reduceMul, Int.reduceBEq, Int.reduceBNe, Int.reduceLT, Int.reduceLE, Int.reduceEq, reduceIte, reduceCtorEq, da, int, boolA]
    | true =>
      have e1' : (a[i].ref != b[i].ref) = false := by rw [bne, e1]; rfl
      cases e2 : a[i].k == b[i].k with
      | false =>
        have e2' : (a[i].k != b[i].k) = true := by rw [bne, e2]; rfl
        simp only [↓vp, vq0, vq1, vq2, vq3, vr0, vr1, vr2, vr3, vr4, vr5, vr6, vr7, vr8, vr9, vr10, vr11, vr12, vr13, vr14, vr15, vr16, vr17, vr18, vr19, vr20, vr21, vr22, vr23, vr24, vr25, vr26, vr27, vr28, vr29, vr30, vr31, vr32, vr33, vr34, opS, fpS, okP, pack, nAl, allocA, shId, leaves, fillA, fillR, splice, Nat.reduceLT, Nat.reduceEqDiff, Nat.reduceLeDiff, Nat.reduceAdd, Nat.reduceSub, Nat.reduceMul, Int.reduceBEq, Int.reduceBNe, Int.reduceLT, Int.reduceLE, Int.reduceEq, reduceIte, reduceCtorEq, da, int, boolA, h0, h1, h12, h13, g, atS gi, cS gi, atS gj, cS gj, e1', e2']
        refine hret _ _ _ (by rw [hc, sameS, e1, e2, Bool.true_and, Bool.false_and, Bool.false_and]) ?_
        simp only [↓vp, vq0, vq1, vq2, vq3, vr0, vr1, vr2, vr3, vr4, vr5, vr6, vr7, vr8, vr9, vr10, vr11, vr12, vr13, vr14, vr15, vr16, vr17, vr18, vr19, vr20, vr21, vr22, vr23, vr24, vr25, vr26, vr27, vr28, vr29, vr30, vr31, vr32, vr33, vr34, opS, fpS, okP, pack, nAl, allocA, shId, leaves, fillA, fillR, splice, Nat.reduceLT, Nat.reduceEqDiff, Nat.reduceLeDiff, Nat.reduceAdd, Nat.reduceSub, Nat.reduceMul, Int.reduceBEq, Int.reduceBNe, Int.reduceLT, Int.reduceLE, Int.reduceEq, reduceIte, reduceCtorEq, da, int, boolA]
      | true =>
        have e2' : (a[i].k != b[i].k) = false := by rw [bne, e2]; rfl
        cases e3 : sameN a[i].n b[i].n with
        | false =>
          simp only [↓vp, vq0, vq1, vq2, vq3, vr0, vr1, vr2, vr3, vr4, vr5, vr6, vr7, vr8, vr9, vr10, vr11, vr12, vr13, vr14, vr15, vr16, vr17, vr18, vr19, vr20, vr21, vr22, vr23, vr24, vr25, vr26, vr27, vr28, vr29, vr30, vr31, vr32, vr33, vr34, opS, fpS, okP, pack, nAl, allocA, shId, leaves, fillA, fillR, splice, Nat.reduceLT, Nat.reduceEqDiff, Nat.reduceLeDiff, Nat.reduceAdd, Nat.reduceSub, Nat.reduceMul, Int.reduceBEq, Int.reduceBNe, Int.reduceLT, Int.reduceLE, Int.reduceEq, reduceIte, reduceCtorEq, da, int, boolA, h0, h1, h12, h13, g, atS gi, cS gi, atS gj, cS gj, e1', e2', k53, k52, t1, t1', o1, o2, e3, kp, kq]
          refine hret _ _ _ (by rw [hc, sameS, e1, e2, e3, Bool.true_and, Bool.true_and, Bool.false_and]) ?_
          simp only [↓vp, vq0, vq1, vq2, vq3, vr0, vr1, vr2, vr3, vr4, vr5, vr6, vr7, vr8, vr9, vr10, vr11, vr12, vr13, vr14, vr15, vr16, vr17, vr18, vr19, vr20, vr21, vr22, vr23, vr24, vr25, vr26, vr27, vr28, vr29, vr30, vr31, vr32, vr33, vr34, opS, fpS, okP, pack, nAl, allocA, shId, leaves, fillA, fillR, splice, Nat.reduceLT, Nat.reduceEqDiff, Nat.reduceLeDiff, Nat.reduceAdd, Nat.reduceSub, Nat.reduceMul, Int.reduceBEq, Int.reduceBNe, Int.reduceLT, Int.reduceLE, Int.reduceEq, reduceIte, reduceCtorEq, da, int, boolA]
        | true =>
          simp only [↓vp, vq0, vq1, vq2, vq3, vr0, vr1, vr2, vr3, vr4, vr5, vr6, vr7, vr8, vr9, vr10, vr11, vr12, vr13, vr14, vr15, vr16, vr17, vr18, vr19, vr20, vr21, vr22, vr23, vr24, vr25, vr26, vr27, vr28, vr29, vr30, vr31, vr32, vr33, vr34, opS, fpS, okP, pack, nAl, allocA, shId, leaves, fillA, fillR, splice, Nat.reduceLT, Nat.reduceEqDiff, Nat.reduceLeDiff, Nat.reduceAdd, Nat.reduceSub, Nat.reduceMul, Int.reduceBEq, Int.reduceBNe, Int.reduceLT, Int.reduceLE, Int.reduceEq, reduceIte, reduceCtorEq, da, int, boolA, h0, h1, h12, h13, g, atS gi, cS gi, atS gj, cS gj, e1', e2', k53, k52, t1, t1', o1, o2, e3, kp, kq, w1]
          refine ih (i + 1) _ _ (by omega) (by rw [hc, sameS, e1, e2, e3, Bool.true_and, Bool.true_and, Bool.true_and]) ?_ ?_ ?_ ?_ <;> simp only [↓vp, vq0, vq1, vq2, vq3, vr0, vr1, vr2, vr3, vr4, vr5, vr6, vr7, vr8, vr9, vr10, vr11, vr12, vr13, vr14, vr15, vr16, vr17, vr18, vr19, vr20, vr21, vr22, vr23, vr24, vr25, vr26, vr27, vr28, vr29, vr30, vr31, vr32, vr33, vr34, opS, fpS, okP, pack, nAl, allocA, shId, leaves, fillA, fillR, splice, Nat.reduceLT, Nat.reduceEqDiff, Nat.reduceLeDiff, Nat.reduceAdd, Nat.reduceSub, Nat.reduceMul, Int.reduceBEq, Int.reduceBNe, Int.reduceLT, Int.reduceLE, Int.reduceEq, reduceIte, reduceCtorEq, da, int, boolA, h0, h1, h12]
theorem s20 (a b : List StepM) (ha : okS a) (hb : okS b) (hi : a.length ≤ 12) (H : Heap) : callL ft (.fn (.func 20) [] []) [encS a, encS b] H = some (boolA (stepsM a b), H) := by
  refine call_p (as' := [encS a, encS b]) rfl rfl (by simp) ?_
  unfold c20 r20
  cases e : ((a.length : Int) != b.length) with
  | true =>
    have e' : (a.length == b.length) = false := by
      have : (a.length : Int) ≠ b.length := by simpa using e
      simp; omega
    simp only [↓vp, vq0, vq1, vq2, vq3, vr0, vr1, vr2, vr3, vr4, vr5, vr6, vr7, vr8, vr9, vr10, vr11, vr12, vr13, vr14, vr15, vr16, vr17, vr18, vr19, vr20, vr21, vr22, vr23, vr24, vr25, vr26, vr27, vr28, vr29, vr30, vr31, vr32, vr33, vr34, opS, fpS, okP, pack, nAl, allocA, shId, leaves, fillA, fillR, splice, Nat.reduceLT, Nat.reduceEqDiff, Nat.reduceLeDiff, Nat.reduceAdd, Nat.reduceSub, Nat.reduceMul, Int.reduceBEq, Int.reduceBNe, Int.reduceLT, Int.reduceLE, Int.reduceEq, reduceIte, reduceCtorEq, da, int, boolA, RetP_go, resT, resC, resN, retV1, retV2, retV3, retV0, frzFZ, takeM, Option.some.injEq, e, stepsM, e', Bool.false_and]
  | false =>
    have hl : a.length = b.length := by
      have : (a.length : Int) = b.length := by simpa using e
      omega
    have e' : (a.length == b.length) = true := by simpa using hl
    simp only [↓vp, vq0, vq1, vq2, vq3, vr0, vr1, vr2, vr3, vr4, vr5, vr6, vr7, vr8, vr9, vr10, vr11, vr12, vr13, vr14, vr15, vr16, vr17, vr18, vr19, vr20, vr21, vr22, vr23, vr24, vr25, vr26, vr27, vr28, vr29, vr30, vr31, vr32, vr33, vr34, opS, fpS, okP, pack, nAl, allocA, shId, leaves, fillA, fillR, splice, Nat.reduceLT, Nat.reduceEqDiff, Nat.reduceLeDiff, Nat.reduceAdd, Nat.reduceSub, Nat.reduceMul, Int.reduceBEq, Int.reduceBNe, Int.reduceLT, Int.reduceLE, Int.reduceEq, reduceIte, reduceCtorEq, da, int, boolA, e]
    refine l20 a b ha hb hl hi (fun f' K hs => ?_) (fun f' K L hs h4 => ?_) a.length 0 _ _ (by omega) rfl ?_ ?_ ?_ ?_
    · unfold c20R1
      simp only [↓vp, vq0, vq1, vq2, vq3, vr0, vr1, vr2, vr3, vr4, vr5, vr6, vr7, vr8, vr9, vr10, vr11, vr12, vr13, vr14, vr15, vr16, vr17, vr18, vr19, vr20, vr21, vr22, vr23, vr24, vr25, vr26, vr27, vr28, vr29, vr30, vr31, vr32, vr33, vr34, opS, fpS, okP, pack, nAl, allocA, shId, leaves, fillA, fillR, splice, Nat.reduceLT, Nat.reduceEqDiff, Nat.reduceLeDiff, Nat.reduceAdd, Nat.reduceSub, Nat.reduceMul, Int.reduceBEq, Int.reduceBNe, Int.reduceLT, Int.reduceLE, Int.reduceEq, reduceIte, reduceCtorEq, da, int, boolA, RetP_go, resT, resC, resN, retV1, retV2, retV3, retV0, frzFZ, takeM, Option.some.injEq, stepsM, e', hs]
    · simp only [↓vp, vq0, vq1, vq2, vq3, vr0, vr1, vr2, vr3, vr4, vr5, vr6, vr7, vr8, vr9, vr10, vr11, vr12, vr13, vr14, vr15, vr16, vr17, vr18, vr19, vr20, vr21, vr22, vr23, vr24, vr25, vr26, vr27, vr28, vr29, vr30, vr31, vr32, vr33, vr34, opS, fpS, okP, pack, nAl, allocA, shId, leaves, fillA, fillR, splice, Nat.reduceLT, Nat.reduceEqDiff, Nat.reduceLeDiff, Nat.reduceAdd, Nat.reduceSub, Nat.reduceMul, Int.reduceBEq, Int.reduceBNe, Int.reduceLT, Int.reduceLE, Int.reduceEq, reduceIte, reduceCtorEq, da, int, boolA, RetP_go, resT, resC, resN, retV1, retV2, retV3, retV0, frzFZ, takeM, Option.some.injEq, h4, stepsM, e', hs]
    all_goals first | rfl | (simp only [↓vp, vq0, vq1, vq2, vq3, vr0, vr1, vr2, vr3, vr4, vr5, vr6, vr7, vr8, vr9, vr10, vr11, vr12, vr13, vr14, vr15, vr16, vr17, vr18, vr19, vr20, vr21, vr22, vr23, vr24, vr25, vr26, vr27, vr28, vr29, vr30, vr31, vr32, vr33, vr34, opS, fpS, okP, pack, nAl, allocA, shId, leaves, fillA, fillR, splice, Nat.reduceLT, Nat.reduceEqDiff, Nat.reduceLeDiff, Nat.reduceAdd, Nat.reduceSub, Nat.reduceMul, Int.reduceBEq, Int.reduceBNe, Int.reduceLT, Int.reduceLE, Int.reduceEq, reduceIte, reduceCtorEq, da, int, boolA]; done)

/-! ### rising keys -/
def risI : List ItemM → Bool
  | x :: y :: r => decide (cmpB x.key y.key < 0) && risI (y :: r)
  | _ => true
def risK : List KidM → Bool
  | x :: y :: r => decide (cmpB x.key y.key < 0) && risK (y :: r)
  | _ => true
theorem risI_step {l : List ItemM} {i : Nat} (h : i + 1 < l.length) : risI (l.drop i) = (decide (cmpB l[i].key l[i + 1].key < 0) && risI (l.drop (i + 1))) := by
  rw [List.drop_eq_getElem_cons (by omega : i < l.length), List.drop_eq_getElem_cons h]
  rfl
theorem risK_step {l : List KidM} {i : Nat} (h : i + 1 < l.length) : risK (l.drop i) = (decide (cmpB l[i].key l[i + 1].key < 0) && risK (l.drop (i + 1))) := by
  rw [List.drop_eq_getElem_cons (by omega : i < l.length), List.drop_eq_getElem_cons h]
  rfl
theorem risI_end {l : List ItemM} {i : Nat} (h : l.length ≤ i + 1) : risI (l.drop i) = true := by
  have : (l.drop i).length ≤ 1 := by simp; omega
  match hx : l.drop i, this with
  | [], _ => rfl
  | [x], _ => rfl
theorem risK_end {l : List KidM} {i : Nat} (h : l.length ≤ i + 1) : risK (l.drop i) = true := by
  have : (l.drop i).length ≤ 1 := by simp; omega
  match hx : l.drop i, this with
  | [], _ => rfl
  | [x], _ => rfl
def risN (n : NodeM) : Bool := risI n.items && risK (n.kids.drop 1)
theorem l15a (n : NodeM) (hn : okN n) {Q : AExit → Env → Heap → Prop}
   (hex : ∀ f', f' 1 = .ptr 0 0 0 → risI n.items = true → Q (.exit 0) (mkE 49 f') (hx Heap.empty [.box false (nodeC n)]))
   (hret : ∀ f', risI n.items = false → f' 2 = boolA false → Q .ret (mkE 49 f') (hx Heap.empty [.box false (nodeC n)])) :
   ∀ (d i : Nat) (f : Nat → AV), n.items.length ≤ i + 1 + d → risI n.items = risI (n.items.drop i) → i < 9223372036854775806 → f 1 = .ptr 0 0 0 → f 3 = int (i + 1 : Nat) →
    AW ft (.loop c15L0) (mkE 49 f) (hx Heap.empty [.box false (nodeC n)]) Q := by
  intro d
  have hi := hn.i.n
  unfold MX at hi
  induction d with
  | zero =>
    intro i f hd hc hb h1 h3
    have g : (((i + 1 : Nat) : Int) < n.items.length) = False := eq_false (by omega)
    rw [AW_loop]
    unfold c15L0
    simp only [↓vp, vq0, vq1, vq2, vq3, vr0, vr1, vr2, vr3, vr4, vr5, vr6, vr7, vr8, vr9, vr10, vr11, vr12, vr13, vr14, vr15, vr16, vr17, vr18, vr19, vr20, vr21, vr22, vr23, vr24, vr25, vr26, vr27, vr28, vr29, vr30, vr31, vr32, vr33, vr34, opS, fpS, okP, pack, nAl, allocA, shId, leaves, fillA, fillR, splice, Nat.reduceLT, Nat.reduceEqDiff, Nat.reduceLeDiff, Nat.reduceAdd, Nat.reduceSub, Nat.reduceMul, Int.reduceBEq, Int.reduceBNe, Int.reduceLT, Int.reduceLE, Int.reduceEq, reduceIte, reduceCtorEq, da, int, boolA, h1, h3, g]
    refine hex _ ?_ (by rw [hc]; exact risI_end (by omega))
    simp only [↓vp, vq0, vq1, vq2, vq3, vr0, vr1, vr2, vr3, vr4, vr5, vr6, vr7, vr8, vr9, vr10, vr11, vr12, vr13, vr14, vr15, vr16, vr17, vr18, vr19, vr20, vr21, vr22, vr23, vr24, vr25, vr26, vr27, vr28, vr29, vr30, vr31, vr32, vr33, vr34, opS, fpS, okP, pack, nAl, allocA, shId, leaves, fillA, fillR, splice, Nat.reduceLT, Nat.reduceEqDiff, Nat.reduceLeDiff, Nat.reduceAdd, Nat.reduceSub, Nat.reduceMul, Int.reduceBEq, Int.reduceBNe, Int.reduceLT, Int.reduceLE, Int.reduceEq, reduceIte, reduceCtorEq, da, int, boolA, h1]
  | succ d ih =>
    intro i f hd hc hb h1 h3
    by_cases hlt : i + 1 < n.items.length
    · have g : (((i + 1 : Nat) : Int) < n.items.length) = True := eq_true (by omega)
      have gi : i < n.items.length := by omega
      have o1 := (hn.i.at_ gi).k
      have o2 := (hn.i.at_ hlt).k
      have w0 := wrap_pred (show i < 9223372036854775807 by omega)
      have w1 := wrap_succ (show i + 1 < 9223372036854775807 by omega)
      rw [risI_step hlt] at hc
      rw [AW_loop]
      unfold c15L0
      by_cases e1 : cmpB n.items[i].key n.items[i + 1].key < 0
      · have e1' : (0 ≤ cmpB n.items[i].key n.items[i + 1].key) = False := eq_false (by omega)
        simp only [↓vp, vq0, vq1, vq2, vq3, vr0, vr1, vr2, vr3, vr4, vr5, vr6, vr7, vr8, vr9, vr10, vr11, vr12, vr13, vr14, vr15, vr16, vr17, vr18, vr19, vr20, vr21, vr22, vr23, vr24, vr25, vr26, vr27, vr28, vr29, vr30, vr31, vr32, vr33, vr34, opS, fpS, okP, pack, nAl, allocA, shId, leaves, fillA, fillR, splice, Nat.reduceLT, Nat.reduceEqDiff, Nat.reduceLeDiff, Nat.reduceAdd, Nat.reduceSub, Nat.reduceMul, Int.reduceBEq, Int.reduceBNe, Int.reduceLT, Int.reduceLE, Int.reduceEq, reduceIte, reduceCtorEq, da, int, boolA, h1, h3, g, w0, atI gi, cI gi, atI hlt, cI hlt, k25, o1, o2, e1', w1]
        refine ih (i + 1) _ (by omega) (by rw [hc]; simp [e1]) (by omega) ?_ ?_ <;> simp only [↓vp, vq0, vq1, vq2, vq3, vr0, vr1, vr2, vr3, vr4, vr5, vr6, vr7, vr8, vr9, vr10, vr11, vr12, vr13, vr14, vr15, vr16, vr17, vr18, vr19, vr20, vr21, vr22, vr23, vr24, vr25, vr26, vr27, vr28, vr29, vr30, vr31, vr32, vr33, vr34, opS, fpS, okP, pack, nAl, allocA, shId, leaves, fillA, fillR, splice, Nat.reduceLT, Nat.reduceEqDiff, Nat.reduceLeDiff, Nat.reduceAdd, Nat.reduceSub, Nat.reduceMul, Int.reduceBEq, Int.reduceBNe, Int.reduceLT, Int.reduceLE, Int.reduceEq, reduceIte, reduceCtorEq, da, int, boolA, h1]
      · have e1' : (0 ≤ cmpB n.items[i].key n.items[i + 1].key) = True := eq_true (by omega)
        simp only [↓vp, vq0, vq1, vq2, vq3, vr0, vr1, vr2, vr3, vr4, vr5, vr6, vr7, vr8, vr9, vr10, vr11, vr12, vr13, vr14, vr15, vr16, vr17, vr18, vr19, vr20, vr21, vr22, vr23, vr24, vr25, vr26, vr27, vr28, vr29, vr30, vr31, vr32, vr33, vr34, opS, fpS, okP, pack, nAl, allocA, shId, leaves, fillA, fillR, splice, Nat.reduceLT, Nat.reduceEqDiff, Nat.reduceLeDiff, Nat.reduceAdd, Nat.reduceSub, Nat.reduceMul, Int.reduceBEq, Int.reduceBNe, Int.reduceLT, Int.reduceLE, Int.reduceEq, reduceIte, reduceCtorEq, da, int, boolA, h1, h3, g, w0, atI gi, cI gi, atI hlt, cI hlt, k25, o1, o2, e1']
        refine hret _ (by rw [hc]; simp [e1]) ?_
        simp only [↓vp, vq0, vq1, vq2, vq3, vr0, vr1, vr2, vr3, vr4, vr5, vr6, vr7, vr8, vr9, vr10, vr11, vr12, vr13, vr14, vr15, vr16, vr17, vr18, vr19, vr20, vr21, vr22, vr23, vr24, vr25, vr26, vr27, vr28, vr29, vr30, vr31, vr32, vr33, vr34, opS, fpS, okP, pack, nAl, allocA, shId, leaves, fillA, fillR, splice, Nat.reduceLT, Nat.reduceEqDiff, Nat.reduceLeDiff, Nat.reduceAdd, Nat.reduceSub, Nat.reduceMul, Int.reduceBEq, Int.reduceBNe, Int.reduceLT, Int.reduceLE, Int.reduceEq, reduceIte, reduceCtorEq, da, int, boolA]
    · have g : (((i + 1 : Nat) : Int) < n.items.length) = False := eq_false (by omega)
      rw [AW_loop]
      unfold c15L0
      simp only [↓vp, vq0, vq1, vq2, vq3, vr0, vr1, vr2, vr3, vr4, vr5, vr6, vr7, vr8, vr9, vr10, vr11, vr12, vr13, vr14, vr15, vr16, vr17, vr18, vr19, vr20, vr21, vr22, vr23, vr24, vr25, vr26, vr27, vr28, vr29, vr30, vr31, vr32, vr33, vr34, opS, fpS, okP, pack, nAl, allocA, shId, leaves, fillA, fillR, splice, Nat.reduceLT, Nat.reduceEqDiff, Nat.reduceLeDiff, Nat.reduceAdd, Nat.reduceSub, Nat.reduceMul, Int.reduceBEq, Int.reduceBNe, Int.reduceLT, Int.reduceLE, Int.reduceEq, reduceIte, reduceCtorEq, da, int, boolA, h1, h3, g]
      refine hex _ ?_ (by rw [hc]; exact risI_end (by omega))
      simp only [↓vp, vq0, vq1, vq2, vq3, vr0, vr1, vr2, vr3, vr4, vr5, vr6, vr7, vr8, vr9, vr10, vr11, vr12, vr13, vr14, vr15, vr16, vr17, vr18, vr19, vr20, vr21, vr22, vr23, vr24, vr25, vr26, vr27, vr28, vr29, vr30, vr31, vr32, vr33, vr34, opS, fpS, okP, pack, nAl, allocA, shId, leaves, fillA, fillR, splice, Nat.reduceLT, Nat.reduceEqDiff, Nat.reduceLeDiff, Nat.reduceAdd, Nat.reduceSub, Nat.reduceMul, Int.reduceBEq, Int.reduceBNe, Int.reduceLT, Int.reduceLE, Int.reduceEq, reduceIte, reduceCtorEq, da, int, boolA, h1]
theorem l15b (n : NodeM) (hn : okN n) {Q : AExit → Env → Heap → Prop}
   (hex : ∀ f', f' 1 = .ptr 0 0 0 → risK (n.kids.drop 1) = true → Q (.exit 2) (mkE 49 f') (hx Heap.empty [.box false (nodeC n)]))
   (hret : ∀ f', risK (n.kids.drop 1) = false → f' 2 = boolA false → Q .ret (mkE 49 f') (hx Heap.empty [.box false (nodeC n)])) :
   ∀ (d i : Nat) (f : Nat → AV), n.kids.length ≤ i + 1 + d → risK (n.kids.drop 1) = risK (n.kids.drop i) → i < 9223372036854775806 → f 1 = .ptr 0 0 0 → f 4 = int (i + 1 : Nat) →
    AW ft (.loop c15L1) (mkE 49 f) (hx Heap.empty [.box false (nodeC n)]) Q := by
  intro d
  have hi := hn.k.n
  unfold MX at hi
  induction d with
  | zero =>
    intro i f hd hc hb h1 h4
    have g : (((i + 1 : Nat) : Int) < n.kids.length) = False := eq_false (by omega)
    rw [AW_loop]
    unfold c15L1
    simp only [↓vp, vq0, vq1, vq2, vq3, vr0, vr1, vr2, vr3, vr4, vr5, vr6, vr7, vr8, vr9, vr10, vr11, vr12, vr13, vr14, vr15, vr16, vr17, vr18, vr19, vr20, vr21, vr22, vr23, vr24, vr25, vr26, vr27, vr28, vr29, vr30, vr31, vr32, vr33, vr34, opS, fpS, okP, pack, nAl, allocA, shId, leaves, fillA, fillR, splice, Nat.reduceLT, Nat.reduceEqDiff, Nat.reduceLeDiff, Nat.reduceAdd, Nat.reduceSub, Nat.reduceMul, Int.reduceBEq, Int.reduceBNe, Int.reduceLT, Int.reduceLE, Int.reduceEq, reduceIte, reduceCtorEq, da, int, boolA, h1, h4, g]
    refine hex _ ?_ (by rw [hc]; exact risK_end (by omega))
    simp only [↓vp, vq0, vq1, vq2, vq3, vr0, vr1, vr2, vr3, vr4, vr5, vr6, vr7, vr8, vr9, vr10, vr11, vr12, vr13, vr14, vr15, vr16, vr17, vr18, vr19, vr20, vr21, vr22, vr23, vr24, vr25, vr26, vr27, vr28, vr29, vr30, vr31, vr32, vr33, vr34, opS, fpS, okP, pack, nAl, allocA, shId, leaves, fillA, fillR, splice, Nat.reduceLT, Nat.reduceEqDiff, Nat.reduceLeDiff, Nat.reduceAdd, Nat.reduceSub, Nat.reduceMul, Int.reduceBEq, Int.reduceBNe, Int.reduceLT, Int.reduceLE, Int.reduceEq, reduceIte, reduceCtorEq, da, int, boolA, h1]
  | succ d ih =>
    intro i f hd hc hb h1 h4
    by_cases hlt : i + 1 < n.kids.length
    · have g : (((i + 1 : Nat) : Int) < n.kids.length) = True := eq_true (by omega)
      have gi : i < n.kids.length := by omega
      have o1 := hn.k.at_ gi
      have o2 := hn.k.at_ hlt
      have w0 := wrap_pred (show i < 9223372036854775807 by omega)
      have w1 := wrap_succ (show i + 1 < 9223372036854775807 by omega)
      rw [risK_step hlt] at hc
      rw [AW_loop]
      unfold c15L1
      by_cases e1 : cmpB n.kids[i].key n.kids[i + 1].key < 0
      · have e1' : (0 ≤ cmpB n.kids[i].key n.kids[i + 1].key) = False := eq_false (by omega)
        simp only [↓vp, vq0, vq1, vq2, vq3, vr0, vr1, vr2, vr3, vr4, vr5, vr6, vr7, vr8, vr9, vr10, vr11, vr12, vr13, vr14, vr15, vr16, vr17, vr18, vr19, vr20, vr21, vr22, vr23, vr24, vr25, vr26, vr27, vr28, vr29, vr30, vr31, vr32, vr33, vr34, opS, fpS, okP, pack, nAl, allocA, shId, leaves, fillA, fillR, splice, Nat.reduceLT, Nat.reduceEqDiff, Nat.reduceLeDiff, Nat.reduceAdd, Nat.reduceSub, Nat.reduceMul, Int.reduceBEq, Int.reduceBNe, Int.reduceLT, Int.reduceLE, Int.reduceEq, reduceIte, reduceCtorEq, da, int, boolA, h1, h4, g, w0, atK gi, cK gi, atK hlt, cK hlt, k25, o1, o2, e1', w1]
        refine ih (i + 1) _ (by omega) (by rw [hc]; simp [e1]) (by omega) ?_ ?_ <;> simp only [↓vp, vq0, vq1, vq2, vq3, vr0, vr1, vr2, vr3, vr4, vr5, vr6, vr7, vr8, vr9, vr10, vr11, vr12, vr13, vr14, vr15, vr16, vr17, vr18, vr19, vr20, vr21, vr22, vr23, vr24, vr25, vr26, vr27, vr28, vr29, vr30, vr31, vr32, vr33, vr34, opS, fpS, okP, pack, nAl, allocA, shId, leaves, fillA, fillR, splice, Nat.reduceLT, Nat.reduceEqDiff, Nat.reduceLeDiff, Nat.reduceAdd, Nat.reduceSub, Nat.reduceMul, Int.reduceBEq, Int.reduceBNe, Int.reduceLT, Int.reduceLE, Int.reduceEq, reduceIte, reduceCtorEq, da, int, boolA, h1]
      · have e1' : (0 ≤ cmpB n.kids[i].key n.kids[i + 1].key) = True := eq_true (by omega)
        simp only [↓vp, vq0, vq1, vq2, vq3, vr0, vr1, vr2, vr3, vr4, vr5, vr6, vr7, vr8, vr9, vr10, vr11, vr12, vr13, vr14, vr15, vr16, vr17, vr18, vr19, vr20, vr21, vr22, vr23, vr24, vr25, vr26, vr27, vr28, vr29, vr30, vr31, vr32, vr33, vr34, opS, fpS, okP, pack, nAl, allocA, shId, leaves, fillA, fillR, splice, Nat.reduceLT, Nat.reduceEqDiff, Nat.reduceLeDiff, Nat.reduceAdd, Nat.reduceSub, Nat.reduceMul, Int.reduceBEq, Int.reduceBNe, Int.reduceLT, Int.reduceLE, Int.reduceEq, reduceIte, reduceCtorEq, da, int, boolA, h1, h4, g, w0, atK gi, cK gi, atK hlt, cK hlt, k25, o1, o2, e1']
        refine hret _ (by rw [hc]; simp [e1]) ?_
        simp only [↓vp, vq0, vq1, vq2, vq3, vr0, vr1, vr2, vr3, vr4, vr5, vr6, vr7, vr8, vr9, vr10, vr11, vr12, vr13, vr14, vr15, vr16, vr17, vr18, vr19, vr20, vr21, vr22, vr23, vr24, vr25, vr26, vr27, vr28, vr29, vr30, vr31, vr32, vr33, vr34, opS, fpS, okP, pack, nAl, allocA, shId, leaves, fillA, fillR, splice, Nat.reduceLT, Nat.reduceEqDiff, Nat.reduceLeDiff, Nat.reduceAdd, Nat.reduceSub, Nat.reduceMul, Int.reduceBEq, Int.reduceBNe, Int.reduceLT, Int.reduceLE, Int.reduceEq, reduceIte, reduceCtorEq, da, int, boolA]
    · have g : (((i + 1 : Nat) : Int) < n.kids.length) = False := eq_false (by omega)
      rw [AW_loop]
      unfold c15L1
      simp only [↓vp, vq0, vq1, vq2, vq3, vr0, vr1, vr2, vr3, vr4, vr5, vr6, vr7, vr8, vr9, vr10, vr11, vr12, vr13, vr14, vr15, vr16, vr17, vr18, vr19, vr20, vr21, vr22, vr23, vr24, vr25, vr26, vr27, vr28, vr29, vr30, vr31, vr32, vr33, vr34, opS, fpS, okP, pack, nAl, allocA, shId, leaves, fillA, fillR, splice, Nat.reduceLT, Nat.reduceEqDiff, Nat.reduceLeDiff, Nat.reduceAdd, Nat.reduceSub, Nat.reduceMul, Int.reduceBEq, Int.reduceBNe, Int.reduceLT, Int.reduceLE, Int.reduceEq, reduceIte, reduceCtorEq, da, int, boolA, h1, h4, g]
      refine hex _ ?_ (by rw [hc]; exact risK_end (by omega))
      simp only [↓vp, vq0, vq1, vq2, vq3, vr0, vr1, vr2, vr3, vr4, vr5, vr6, vr7, vr8, vr9, vr10, vr11, vr12, vr13, vr14, vr15, vr16, vr17, vr18, vr19, vr20, vr21, vr22, vr23, vr24, vr25, vr26, vr27, vr28, vr29, vr30, vr31, vr32, vr33, vr34, opS, fpS, okP, pack, nAl, allocA, shId, leaves, fillA, fillR, splice, Nat.reduceLT, Nat.reduceEqDiff, Nat.reduceLeDiff, Nat.reduceAdd, Nat.reduceSub, Nat.reduceMul, Int.reduceBEq, Int.reduceBNe, Int.reduceLT, Int.reduceLE, Int.reduceEq, reduceIte, reduceCtorEq, da, int, boolA, h1]
theorem s15 (n : NodeM) (hn : okN n) (H : Heap) : callL ft (.fn (.func 15) [] []) [.agg (nodeC n)] H = some (boolA (risN n), H) := by
  refine call_p (as' := [.agg (nodeC n)]) rfl rfl (by simp) ?_
  have hi := hn.i.n
  have hk := hn.k.n
  unfold MX at hi hk
  unfold c15 r15
  simp only [↓vp, vq0, vq1, vq2, vq3, vr0, vr1, vr2, vr3, vr4, vr5, vr6, vr7, vr8, vr9, vr10, vr11, vr12, vr13, vr14, vr15, vr16, vr17, vr18, vr19, vr20, vr21, vr22, vr23, vr24, vr25, vr26, vr27, vr28, vr29, vr30, vr31, vr32, vr33, vr34, opS, fpS, okP, pack, nAl, allocA, shId, leaves, fillA, fillR, splice, Nat.reduceLT, Nat.reduceEqDiff, Nat.reduceLeDiff, Nat.reduceAdd, Nat.reduceSub, Nat.reduceMul, Int.reduceBEq, Int.reduceBNe, Int.reduceLT, Int.reduceLE, Int.reduceEq, reduceIte, reduceCtorEq, da, int, boolA]
  refine l15a n hn (fun f' h1 hs => ?_) (fun f' hs h2 => ?_) n.items.length 0 _ (by omega) rfl (by omega) ?_ ?_
  · unfold c15R3
    simp only [↓vp, vq0, vq1, vq2, vq3, vr0, vr1, vr2, vr3, vr4, vr5, vr6, vr7, vr8, vr9, vr10, vr11, vr12, vr13, vr14, vr15, vr16, vr17, vr18, vr19, vr20, vr21, vr22, vr23, vr24, vr25, vr26, vr27, vr28, vr29, vr30, vr31, vr32, vr33, vr34, opS, fpS, okP, pack, nAl, allocA, shId, leaves, fillA, fillR, splice, Nat.reduceLT, Nat.reduceEqDiff, Nat.reduceLeDiff, Nat.reduceAdd, Nat.reduceSub, Nat.reduceMul, Int.reduceBEq, Int.reduceBNe, Int.reduceLT, Int.reduceLE, Int.reduceEq, reduceIte, reduceCtorEq, da, int, boolA]
    refine l15b n hn (fun f'' h1' hs' => ?_) (fun f'' hs' h2' => ?_) n.kids.length 1 _ (by omega) rfl (by omega) ?_ ?_
    · unfold c15R2
      simp only [↓vp, vq0, vq1, vq2, vq3, vr0, vr1, vr2, vr3, vr4, vr5, vr6, vr7, vr8, vr9, vr10, vr11, vr12, vr13, vr14, vr15, vr16, vr17, vr18, vr19, vr20, vr21, vr22, vr23, vr24, vr25, vr26, vr27, vr28, vr29, vr30, vr31, vr32, vr33, vr34, opS, fpS, okP, pack, nAl, allocA, shId, leaves, fillA, fillR, splice, Nat.reduceLT, Nat.reduceEqDiff, Nat.reduceLeDiff, Nat.reduceAdd, Nat.reduceSub, Nat.reduceMul, Int.reduceBEq, Int.reduceBNe, Int.reduceLT, Int.reduceLE, Int.reduceEq, reduceIte, reduceCtorEq, da, int, boolA, RetP_go, resT, resC, resN, retV1, retV2, retV3, retV0, frzFZ, takeM, Option.some.injEq, risN, hs, hs']
    · simp only [↓vp, vq0, vq1, vq2, vq3, vr0, vr1, vr2, vr3, vr4, vr5, vr6, vr7, vr8, vr9, vr10, vr11, vr12, vr13, vr14, vr15, vr16, vr17, vr18, vr19, vr20, vr21, vr22, vr23, vr24, vr25, vr26, vr27, vr28, vr29, vr30, vr31, vr32, vr33, vr34, opS, fpS, okP, pack, nAl, allocA, shId, leaves, fillA, fillR, splice, Nat.reduceLT, Nat.reduceEqDiff, Nat.reduceLeDiff, Nat.reduceAdd, Nat.reduceSub, Nat.reduceMul, Int.reduceBEq, Int.reduceBNe, Int.reduceLT, Int.reduceLE, Int.reduceEq, reduceIte, reduceCtorEq, da, int, boolA, RetP_go, resT, resC, resN, retV1, retV2, retV3, retV0, frzFZ, takeM, Option.some.injEq, h2', risN, hs, hs']
    · simp only [↓vp, vq0, vq1, vq2, vq3, vr0, vr1, vr2, vr3, vr4, vr5, vr6, vr7, vr8, vr9, vr10, vr11, vr12, vr13, vr14, vr15, vr16, vr17, vr18, vr19, vr20, vr21, vr22, vr23, vr24, vr25, vr26, vr27, vr28, vr29, vr30, vr31, vr32, vr33, vr34, opS, fpS, okP, pack, nAl, allocA, shId, leaves, fillA, fillR, splice, Nat.reduceLT, Nat.reduceEqDiff, Nat.reduceLeDiff, Nat.reduceAdd, Nat.reduceSub, Nat.reduceMul, Int.reduceBEq, Int.reduceBNe, Int.reduceLT, Int.reduceLE, Int.reduceEq, reduceIte, reduceCtorEq, da, int, boolA, h1]
    · simp only [↓vp, vq0, vq1, vq2, vq3, vr0, vr1, vr2, vr3, vr4, vr5, vr6, vr7, vr8, vr9, vr10, vr11, vr12, vr13, vr14, vr15, vr16, vr17, vr18, vr19, vr20, vr21, vr22, vr23, vr24, vr25, vr26, vr27, vr28, vr29, vr30, vr31, vr32, vr33, vr34, opS, fpS, okP, pack, nAl, allocA, shId, leaves, fillA, fillR, splice, Nat.reduceLT, Nat.reduceEqDiff, Nat.reduceLeDiff, Nat.reduceAdd, Nat.reduceSub, Nat.reduceMul, Int.reduceBEq, Int.reduceBNe, Int.reduceLT, Int.reduceLE, Int.reduceEq, reduceIte, reduceCtorEq, da, int, boolA]; rfl
  · simp only [↓vp, vq0, vq1, vq2, vq3, vr0, vr1, vr2, vr3, vr4, vr5, vr6, vr7, vr8, vr9, vr10, vr11, vr12, vr13, vr14, vr15, vr16, vr17, vr18, vr19, vr20, vr21, vr22, vr23, vr24, vr25, vr26, vr27, vr28, vr29, vr30, vr31, vr32, vr33, vr34, opS, fpS, okP, pack, nAl, allocA, shId, leaves, fillA, fillR, splice, Nat.reduceLT, Nat.reduceEqDiff, Nat.reduceLeDiff, Nat.reduceAdd, Nat.reduceSub, Nat.reduceMul, Int.reduceBEq, Int.reduceBNe, Int.reduceLT, Int.reduceLE, Int.reduceEq, reduceIte, reduceCtorEq, da, int, boolA, RetP_go, resT, resC, resN, retV1, retV2, retV3, retV0, frzFZ, takeM, Option.some.injEq, h2, risN, hs, Bool.false_and]
  · simp only [↓vp, vq0, vq1, vq2, vq3, vr0, vr1, vr2, vr3, vr4, vr5, vr6, vr7, vr8, vr9, vr10, vr11, vr12, vr13, vr14, vr15, vr16, vr17, vr18, vr19, vr20, vr21, vr22, vr23, vr24, vr25, vr26, vr27, vr28, vr29, vr30, vr31, vr32, vr33, vr34, opS, fpS, okP, pack, nAl, allocA, shId, leaves, fillA, fillR, splice, Nat.reduceLT, Nat.reduceEqDiff, Nat.reduceLeDiff, Nat.reduceAdd, Nat.reduceSub, Nat.reduceMul, Int.reduceBEq, Int.reduceBNe, Int.reduceLT, Int.reduceLE, Int.reduceEq, reduceIte, reduceCtorEq, da, int, boolA]
  · simp only [↓vp, vq0, vq1, vq2, vq3, vr0, vr1, vr2, vr3, vr4, vr5, vr6, vr7, vr8, vr9, vr10, vr11, vr12, vr13, vr14, vr15, vr16, vr17, vr18, vr19, vr20, vr21, vr22, vr23, vr24, vr25, vr26, vr27, vr28, vr29, vr30, vr31, vr32, vr33, vr34, opS, fpS, okP, pack, nAl, allocA, shId, leaves, fillA, fillR, splice, Nat.reduceLT, Nat.reduceEqDiff, Nat.reduceLeDiff, Nat.reduceAdd, Nat.reduceSub, Nat.reduceMul, Int.reduceBEq, Int.reduceBNe, Int.reduceLT, Int.reduceLE, Int.reduceEq, reduceIte, reduceCtorEq, da, int, boolA]; rfl
end Go.VI
