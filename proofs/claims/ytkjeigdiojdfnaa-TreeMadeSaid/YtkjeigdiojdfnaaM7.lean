import Derived.Test.YtkjeigdiojdfnaaM5
/- VI, part TA: the document's keys. -/
set_option linter.unusedVariables false
set_option linter.unusedSimpArgs false
set_option maxRecDepth 100000
namespace Go.VI
attribute [local congr] AW_congr OW_congr DW_congr NW_congr VW_congr GW_congr PW_congr KW_congr ite_congr' GV_congr CV_congr

/-- Do keys rise from a bound on, and end below another one? -/
def rkM (hi : Bool) (hk : Bytes) : Bool → Bytes → Bool → List Bytes → Bool
  | _, _, _, [] => true
  | lis, last, eq, x :: l => !(lis && (decide (cmpB x last < 0) || (cmpB x last == 0 && !eq))) && !(hi && decide (0 ≤ cmpB x hk)) && rkM hi hk true x false l
def keys2 (n : NodeM) : List Bytes := if n.leaf then n.items.map (·.key) else (n.kids.drop 1).map (·.key)
def bndC (is : Bool) (k : Bytes) : List AV := [boolA is, encB k]
theorem b2 (is : Bool) (k : Bytes) : (bndC is k).take 2 = bndC is k := rfl
theorem b0 (is : Bool) (k : Bytes) : (bndC is k).take 1 = [boolA is] := rfl
theorem b1 (is : Bool) (k : Bytes) : ((bndC is k).drop 1).take 1 = [encB k] := rfl
theorem bl (is : Bool) (k : Bytes) : (bndC is k).length = 2 := rfl
theorem bo (is : Bool) (k : Bytes) : oneAll (bndC is k) = true := rfl
theorem bd (is : Bool) (k : Bytes) : (bndC is k).drop 2 = [] := rfl
theorem l57 (n : NodeM) (hn : okN n) (li : Bool) (lk : Bytes) (hi : Bool) (hk : Bytes) (hhk : okB hk) (R : Bool) {Q : AExit → Env → Heap → Prop}
   (hex : ∀ f' L, R = true → Q (.exit 0) (mkE 62 f') (hx Heap.empty L)) (hret : ∀ f' L, R = false → f' 6 = boolA false → Q .ret (mkE 62 f') (hx Heap.empty L)) :
   ∀ (d i : Nat) (lis : Bool) (last : Bytes) (eq : Bool) (f : Nat → AV), okB last → (i : Int) + d = manyN n → R = rkM hi hk lis last eq (if n.leaf then (n.items.drop i).map (·.key) else (n.kids.drop (if i = 0 then 1 else i)).map (·.key)) →
    f 3 = .ptr 0 0 0 → f 4 = .ptr 1 0 0 → f 5 = .ptr 2 0 0 → f 7 = .ptr 3 0 0 → f 8 = boolA eq → f 9 = int i →
    AW ft (.loop c57L0) (mkE 62 f) (hx Heap.empty [.box false (nodeC n), .box false (bndC li lk), .box false (bndC hi hk), .box false (bndC lis last)]) Q := by
  have h1 := hn.i.n
  have h2 := hn.k.n
  unfold MX at h1 h2
  intro d
  induction d with
  | zero =>
    intro i lis last eq f hl hd hR h3 h4 h5 h7 h8 h9
    have g : ((i : Int) < manyN n) = False := eq_false (by omega)
    rw [AW_loop]
    unfold c57L0
    simp only [↓vp, vq0, vq1, vq2, vq3, vr0, vr1, vr2, vr3, vr4, vr5, vr6, vr7, vr8, vr9, vr10, vr11, vr12, vr13, vr14, vr15, vr16, vr17, vr18, vr19, vr20, vr21, vr22, vr23, vr24, vr25, vr26, vr27, vr28, vr29, vr30, vr31, vr32, vr33, vr34, opS, fpS, okP, pack, nAl, allocA, shId, leaves, fillA, fillR, splice, Nat.reduceLT, Nat.reduceEqDiff, Nat.reduceLeDiff, Nat.reduceAdd, Nat.reduceSub, Nat.reduceMul, Int.reduceBEq, Int.reduceBNe, Int.reduceLT, Int.reduceLE, Int.reduceEq, reduceIte, reduceCtorEq, da, int, boolA, h3, h9, k48, g]
    refine hex _ _ ?_
    rw [hR]
    unfold manyN at hd
    cases e : n.leaf with
    | true =>
      rw [e] at hd
      have : n.items.length ≤ i := by simp at hd; omega
      simp [List.drop_eq_nil_of_le this, rkM]
    | false =>
      rw [e] at hd
      simp at hd
      have : n.kids.length ≤ (if i = 0 then 1 else i) := by split <;> omega
      simp [List.drop_eq_nil_of_le this, rkM]
  | succ d ih =>
    intro i lis last eq f hl hd hR h3 h4 h5 h7 h8 h9
    have g : ((i : Int) < manyN n) = True := eq_true (by omega)
    unfold manyN at hd
    cases e : n.leaf with
    | true =>
      rw [e] at hd hR
      simp only [if_true] at hd hR
      have gi : i < n.items.length := by omega
      have w1 := wrap_succ (show i < 9223372036854775807 by omega)
      have hkey := (hn.i.at_ gi).k
      rw [List.drop_eq_getElem_cons gi, List.map_cons, rkM] at hR
      have fin : ∀ (f : Nat → AV), R = rkM hi hk true n.items[i].key false ((n.items.drop (i + 1)).map (·.key)) → f 3 = .ptr 0 0 0 → f 4 = .ptr 1 0 0 → f 5 = .ptr 2 0 0 → f 7 = .ptr 3 0 0 → f 8 = boolA false → f 9 = int (i + 1 : Nat) →
          AW ft (.loop c57L0) (mkE 62 f) (hx Heap.empty [.box false (nodeC n), .box false (bndC li lk), .box false (bndC hi hk), .box false (bndC true n.items[i].key)]) Q := fun f hr q3 q4 q5 q7 q8 q9 =>
        ih (i + 1) true n.items[i].key false f hkey (by unfold manyN; rw [e]; simp; omega) (by rw [e]; exact hr) q3 q4 q5 q7 q8 q9
      rw [AW_loop]
      unfold c57L0
      cases lis with
      | true =>
        cases a4 : decide (cmpB n.items[i].key last < 0) with
        | true =>
          simp only [↓vp, vq0, vq1, vq2, vq3, vr0, vr1, vr2, vr3, vr4, vr5, vr6, vr7, vr8, vr9, vr10, vr11, vr12, vr13, vr14, vr15, vr16, vr17, vr18, vr19, vr20, vr21, vr22, vr23, vr24, vr25, vr26, vr27, vr28, vr29, vr30, vr31, vr32, vr33, vr34, opS, fpS, okP, pack, nAl, allocA, shId, leaves, fillA, fillR, splice, Nat.reduceLT, Nat.reduceEqDiff, Nat.reduceLeDiff, Nat.reduceAdd, Nat.reduceSub, Nat.reduceMul, Int.reduceBEq, Int.reduceBNe, Int.reduceLT, Int.reduceLE, Int.reduceEq, reduceIte, reduceCtorEq, da, int, boolA, h3, h4, h5, h7, h8, h9, k48, g, e, atI gi, cI gi, b2, b0, b1, bl, bo, bd, k25, hkey, hl, hhk, a4]
          refine hret _ _ (by rw [hR]; simp [a4]) ?_
          simp only [↓vp, vq0, vq1, vq2, vq3, vr0, vr1, vr2, vr3, vr4, vr5, vr6, vr7, vr8, vr9, vr10, vr11, vr12, vr13, vr14, vr15, vr16, vr17, vr18, vr19, vr20, vr21, vr22, vr23, vr24, vr25, vr26, vr27, vr28, vr29, vr30, vr31, vr32, vr33, vr34, opS, fpS, okP, pack, nAl, allocA, shId, leaves, fillA, fillR, splice, Nat.reduceLT, Nat.reduceEqDiff, Nat.reduceLeDiff, Nat.reduceAdd, Nat.reduceSub, Nat.reduceMul, Int.reduceBEq, Int.reduceBNe, Int.reduceLT, Int.reduceLE, Int.reduceEq, reduceIte, reduceCtorEq, da, int, boolA]
        | false =>
          cases a5 : (cmpB n.items[i].key last == 0) with
          | true =>
            cases eq with
            | true =>
              cases hi with
              | true =>
                cases a3 : decide (0 ≤ cmpB n.items[i].key hk) with
                | true =>
                  simp only [↓vp, vq0, vq1, vq2, vq3, vr0, vr1, vr2, vr3, vr4, vr5, vr6, vr7, vr8, vr9, vr10, vr11, vr12, vr13, vr14, vr15, vr16, vr17, vr18, vr19, vr20, vr21, vr22, vr23, vr24, vr25, vr26, vr27, vr28, vr29, vr30, vr31, vr32, vr33, vr34, opS, fpS, okP, pack, nAl, allocA, shId, leaves, fillA, fillR, splice, Nat.reduceLT, Nat.reduceEqDiff, Nat.reduceLeDiff, Nat.reduceAdd, Nat.reduceSub, Nat.reduceMul, Int.reduceBEq, Int.reduceBNe, Int.reduceLT, Int.reduceLE, Int.reduceEq, reduceIte, reduceCtorEq, da, int, boolA, h3, h4, h5, h7, h8, h9, k48, g, e, atI gi, cI gi, b2, b0, b1, bl, bo, bd, k25, hkey, hl, hhk, a4, a5, a3]
                  refine hret _ _ (by rw [hR]; simp [a4, a5, a3]) ?_
                  simp only [↓vp, vq0, vq1, vq2, vq3, vr0, vr1, vr2, vr3, vr4, vr5, vr6, vr7, vr8, vr9, vr10, vr11, vr12, vr13, vr14, vr15, vr16, vr17, vr18, vr19, vr20, vr21, vr22, vr23, vr24, vr25, vr26, vr27, vr28, vr29, vr30, vr31, vr32, vr33, vr34, opS, fpS, okP, pack, nAl, allocA, shId, leaves, fillA, fillR, splice, Nat.reduceLT, Nat.reduceEqDiff, Nat.reduceLeDiff, Nat.reduceAdd, Nat.reduceSub, Nat.reduceMul, Int.reduceBEq, Int.reduceBNe, Int.reduceLT, Int.reduceLE, Int.reduceEq, reduceIte, reduceCtorEq, da, int, boolA]
                | false =>
                  simp only [↓vp, vq0, vq1, vq2, vq3, vr0, vr1, vr2, vr3, vr4, vr5, vr6, vr7, vr8, vr9, vr10, vr11, vr12, vr13, vr14, vr15, vr16, vr17, vr18, vr19, vr20, vr21, vr22, vr23, vr24, vr25, vr26, vr27, vr28, vr29, vr30, vr31, vr32, vr33, vr34, opS, fpS, okP, pack, nAl, allocA, shId, leaves, fillA, fillR, splice, Nat.reduceLT, Nat.reduceEqDiff, Nat.reduceLeDiff, Nat.reduceAdd, Nat.reduceSub, Nat.reduceMul, Int.reduceBEq, Int.reduceBNe, Int.reduceLT, Int.reduceLE, Int.reduceEq, reduceIte, reduceCtorEq, da, int, boolA, h3, h4, h5, h7, h8, h9, k48, g, e, atI gi, cI gi, b2, b0, b1, bl, bo, bd, k25, hkey, hl, hhk, w1, a4, a5, a3]
                  refine fin _ ?_ ?_ ?_ ?_ ?_ ?_ ?_
                  · rw [hR]; simp [a4, a5, a3]
                  all_goals simp only [↓vp, vq0, vq1, vq2, vq3, vr0, vr1, vr2, vr3, vr4, vr5, vr6, vr7, vr8, vr9, vr10, vr11, vr12, vr13, vr14, vr15, vr16, vr17, vr18, vr19, vr20, vr21, vr22, vr23, vr24, vr25, vr26, vr27, vr28, vr29, vr30, vr31, vr32, vr33, vr34, opS, fpS, okP, pack, nAl, allocA, shId, leaves, fillA, fillR, splice, Nat.reduceLT, Nat.reduceEqDiff, Nat.reduceLeDiff, Nat.reduceAdd, Nat.reduceSub, Nat.reduceMul, Int.reduceBEq, Int.reduceBNe, Int.reduceLT, Int.reduceLE, Int.reduceEq, reduceIte, reduceCtorEq, da, int, boolA, h3, h4, h5, h7, h8, h9]
              | false =>
                simp only [↓vp, vq0, vq1, vq2, vq3, vr0, vr1, vr2, vr3, vr4, vr5, vr6, vr7, vr8, vr9, vr10, vr11, vr12, vr13, vr14, vr15, vr16, vr17, vr18, vr19, vr20, vr21, vr22, vr23, vr24, vr25, vr26, vr27, vr28, vr29, vr30, vr31, vr32, vr33, vr34, opS, fpS, okP, pack, nAl, allocA, shId, leaves, fillA, fillR, splice, Nat.reduceLT, Nat.reduceEqDiff, Nat.reduceLeDiff, Nat.reduceAdd, Nat.reduceSub, Nat.reduceMul, Int.reduceBEq, Int.reduceBNe, Int.reduceLT, Int.reduceLE, Int.reduceEq, reduceIte, reduceCtorEq, da, int, boolA, h3, h4, h5, h7, h8, h9, k48, g, e, atI gi, cI gi, b2, b0, b1, bl, bo, bd, k25, hkey, hl, hhk, w1, a4, a5]
                refine fin _ ?_ ?_ ?_ ?_ ?_ ?_ ?_
                · rw [hR]; simp [a4, a5]
                all_goals simp only [↓vp, vq0, vq1, vq2, vq3, vr0, vr1, vr2, vr3, vr4, vr5, vr6, vr7, vr8, vr9, vr10, vr11, vr12, vr13, vr14, vr15, vr16, vr17, vr18, vr19, vr20, vr21, vr22, vr23, vr24, vr25, vr26, vr27, vr28, vr29, vr30, vr31, vr32, vr33, vr34, opS, fpS, okP, pack, nAl, allocA, shId, leaves, fillA, fillR, splice, Nat.reduceLT, Nat.reduceEqDiff, Nat.reduceLeDiff, Nat.reduceAdd, Nat.reduceSub, Nat.reduceMul, Int.reduceBEq, Int.reduceBNe, Int.reduceLT, Int.reduceLE, Int.reduceEq, reduceIte, reduceCtorEq, da, int, boolA, h3, h4, h5, h7, h8, h9]
            | false =>
              simp only [↓vp, vq0, vq1, vq2, vq3, vr0, vr1, vr2, vr3, vr4, vr5, vr6, vr7, vr8, vr9, vr10, vr11, vr12, vr13, vr14, vr15, vr16, vr17, vr18, vr19, vr20, vr21, vr22, vr23, vr24, vr25, vr26, vr27, vr28, vr29, vr30, vr31, vr32, vr33, vr34, opS, fpS, okP, pack, nAl, allocA, shId, leaves, fillA, fillR, splice, Nat.reduceLT, Nat.reduceEqDiff, Nat.reduceLeDiff, Nat.reduceAdd, Nat.reduceSub, Nat.reduceMul, Int.reduceBEq, Int.reduceBNe, Int.reduceLT, Int.reduceLE, Int.reduceEq, reduceIte, reduceCtorEq, da, int, boolA, h3, h4, h5, h7, h8, h9, k48, g, e, atI gi, cI gi, b2, b0, b1, bl, bo, bd, k25, hkey, hl, hhk, a4, a5]
              refine hret _ _ (by rw [hR]; simp [a4, a5]) ?_
              simp only [↓vp, vq0, vq1, vq2, vq3, vr0, vr1, vr2, vr3, vr4, vr5, vr6, vr7, vr8, vr9, vr10, vr11, vr12, vr13, vr14, vr15, vr16, vr17, vr18, vr19, vr20, vr21, vr22, vr23, vr24, vr25, vr26, vr27, vr28, vr29, vr30, vr31, vr32, vr33, vr34, opS, fpS, okP, pack, nAl, allocA, shId, leaves, fillA, fillR, splice, Nat.reduceLT, Nat.reduceEqDiff, Nat.reduceLeDiff, Nat.reduceAdd, Nat.reduceSub, Nat.reduceMul, Int.reduceBEq, Int.reduceBNe, Int.reduceLT, Int.reduceLE, Int.reduceEq, reduceIte, reduceCtorEq, da, int, boolA]
          | false =>
            cases hi with
            | true =>
              cases a3 : decide (0 ≤ cmpB n.items[i].key hk) with
              | true =>
                simp only [↓vp, vq0, vq1, vq2, vq3, vr0, vr1, vr2, vr3, vr4, vr5, vr6, vr7, vr8, vr9, vr10, vr11, vr12, vr13, vr14, vr15, vr16, vr17, vr18, vr19, vr20, vr21, vr22, vr23, vr24, vr25, vr26, vr27, vr28, vr29, vr30, vr31, vr32, vr33, vr34, opS, fpS, okP, pack, nAl, allocA, shId, leaves, fillA, fillR, splice, Nat.reduceLT, Nat.reduceEqDiff, Nat.reduceLeDiff, Nat.reduceAdd, Nat.reduceSub, Nat.reduceMul, Int.reduceBEq, Int.reduceBNe, Int.reduceLT, Int.reduceLE, Int.reduceEq, reduceIte, reduceCtorEq, da, int, boolA, h3, h4, h5, h7, h8, h9, k48, g, e, atI gi, cI gi, b2, b0, b1, bl, bo, bd, k25, hkey, hl, hhk, a4, a5, a3]
                refine hret _ _ (by rw [hR]; simp [a4, a5, a3]) ?_
                simp only [↓vp, vq0, vq1, vq2, vq3, vr0, vr1, vr2, vr3, vr4, vr5, vr6, vr7, vr8, vr9, vr10, vr11, vr12, vr13, vr14, vr15, vr16, vr17, vr18, vr19, vr20, vr21, vr22, vr23, vr24, vr25, vr26, vr27, vr28, vr29, vr30, vr31, vr32, vr33, vr34, opS, fpS, okP, pack, nAl, allocA, shId, leaves, fillA, fillR, splice, Nat.reduceLT, Nat.reduceEqDiff, Nat.reduceLeDiff, Nat.reduceAdd, Nat.reduceSub, Nat.reduceMul, Int.reduceBEq, Int.reduceBNe, Int.reduceLT, Int.reduceLE, Int.reduceEq, reduceIte, reduceCtorEq, da, int, boolA]
              | false =>
                simp only [↓vp, vq0, vq1, vq2, vq3, vr0, vr1, vr2, vr3, vr4, vr5, vr6, vr7, vr8, vr9, vr10, vr11, vr12, vr13, vr14, vr15, vr16, vr17, vr18, vr19, vr20, vr21, vr22, vr23, vr24, vr25, vr26, vr27, vr28, vr29, vr30, vr31, vr32, vr33, vr34, opS, fpS, okP, pack, nAl, allocA, shId, leaves, fillA, fillR, splice, Nat.reduceLT, Nat.reduceEqDiff, Nat.reduceLeDiff, Nat.reduceAdd, Nat.reduceSub, Nat.reduceMul, Int.reduceBEq, Int.reduceBNe, Int.reduceLT, Int.reduceLE, Int.reduceEq, reduceIte, reduceCtorEq, da, int, boolA, h3, h4, h5, h7, h8, h9, k48, g, e, atI gi, cI gi, b2, b0, b1, bl, bo, bd, k25, hkey, hl, hhk, w1, a4, a5, a3]
                refine fin _ ?_ ?_ ?_ ?_ ?_ ?_ ?_
                · rw [hR]; simp [a4, a5, a3]
                all_goals simp only [↓vp, vq0, vq1, vq2, vq3, vr0, vr1, vr2, vr3, vr4, vr5, vr6, vr7, vr8, vr9, vr10, vr11, vr12, vr13, vr14, vr15, vr16, vr17, vr18, vr19, vr20, vr21, vr22, vr23, vr24, vr25, vr26, vr27, vr28, vr29, vr30, vr31, vr32, vr33, vr34, opS, fpS, okP, pack, nAl, allocA, shId, leaves, fillA, fillR, splice, Nat.reduceLT, Nat.reduceEqDiff, Nat.reduceLeDiff, Nat.reduceAdd, Nat.reduceSub, Nat.reduceMul, Int.reduceBEq, Int.reduceBNe, Int.reduceLT, Int.reduceLE, Int.reduceEq, reduceIte, reduceCtorEq, da, int, boolA, h3, h4, h5, h7, h8, h9]
            | false =>
              simp only [↓vp, vq0, vq1, vq2, vq3, vr0, vr1, vr2, vr3, vr4, vr5, vr6, vr7, vr8, vr9, vr10, vr11, vr12, vr13, vr14, vr15, vr16, vr17, vr18, vr19, vr20, vr21, vr22, vr23, vr24, vr25, vr26, vr27, vr28, vr29, vr30, vr31, vr32, vr33, vr34, opS, fpS, okP, pack, nAl, allocA, shId, leaves, fillA, fillR, splice, Nat.reduceLT, Nat.reduceEqDiff, Nat.reduceLeDiff, Nat.reduceAdd, Nat.reduceSub, Nat.reduceMul, Int.reduceBEq, Int.reduceBNe, Int.reduceLT, Int.reduceLE, Int.reduceEq, reduceIte, reduceCtorEq, da, int, boolA, h3, h4, h5, h7, h8, h9, k48, g, e, atI gi, cI gi, b2, b0, b1, bl, bo, bd, k25, hkey, hl, hhk, w1, a4, a5]
              refine fin _ ?_ ?_ ?_ ?_ ?_ ?_ ?_
              · rw [hR]; simp [a4, a5]
              all_goals simp only [↓vp, vq0, vq1, vq2, vq3, vr0, vr1, vr2, vr3, vr4, vr5, vr6, vr7, vr8, vr9, vr10, vr11, vr12, vr13, vr14, vr15, vr16, vr17, vr18, vr19, vr20, vr21, vr22, vr23, vr24, vr25, vr26, vr27, vr28, vr29, vr30, vr31, vr32, vr33, vr34, opS, fpS, okP, pack, nAl, allocA, shId, leaves, fillA, fillR, splice, Nat.reduceLT, Nat.reduceEqDiff, Nat.reduceLeDiff, Nat.reduceAdd, Nat.reduceSub, Nat.reduceMul, Int.reduceBEq, Int.reduceBNe, Int.reduceLT, Int.reduceLE, Int.reduceEq, reduceIte, reduceCtorEq, da, int, boolA, h3, h4, h5, h7, h8, h9]
      | false =>
        cases hi with
        | true =>
          cases a3 : decide (0 ≤ cmpB n.items[i].key hk) with
          | true =>
            simp only [↓vp, vq0, vq1, vq2, vq3, vr0, vr1, vr2, vr3, vr4, vr5, vr6, vr7, vr8, vr9, vr10, vr11, vr12, vr13, vr14, vr15, vr16, vr17, vr18, vr19, vr20, vr21, vr22, vr23, vr24, vr25, vr26, vr27, vr28, vr29, vr30, vr31, vr32, vr33, vr34, opS, fpS, okP, pack, nAl, allocA, shId, leaves, fillA, fillR, splice, Nat.reduceLT, Nat.reduceEqDiff, Nat.reduceLeDiff, Nat.reduceAdd, Nat.reduceSub, Nat.reduceMul, Int.reduceBEq, Int.reduceBNe, Int.reduceLT, Int.reduceLE, Int.reduceEq, reduceIte, reduceCtorEq, da, int, boolA, h3, h4, h5, h7, h8, h9, k48, g, e, atI gi, cI gi, b2, b0, b1, bl, bo, bd, k25, hkey, hl, hhk, a3]
            refine hret _ _ (by rw [hR]; simp [a3]) ?_
            simp only [↓vp, vq0, vq1, vq2, vq3, vr0, vr1, vr2, vr3, vr4, vr5, vr6, vr7, vr8, vr9, vr10, vr11, vr12, vr13, vr14, vr15, vr16, vr17, vr18, vr19, vr20, vr21, vr22, vr23, vr24, vr25, vr26, vr27, vr28, vr29, vr30, vr31, vr32, vr33, vr34, opS, fpS, okP, pack, nAl, allocA, shId, leaves, fillA, fillR, splice, Nat.reduceLT, Nat.reduceEqDiff, Nat.reduceLeDiff, Nat.reduceAdd, Nat.reduceSub, Nat.reduceMul, Int.reduceBEq, Int.reduceBNe, Int.reduceLT, Int.reduceLE, Int.reduceEq, reduceIte, reduceCtorEq, da, int, boolA]
          | false =>
            simp only [↓vp, vq0, vq1, vq2, vq3, vr0, vr1, vr2, vr3, vr4, vr5, vr6, vr7, vr8, vr9, vr10, vr11, vr12, vr13, vr14, vr15, vr16, vr17, vr18, vr19, vr20, vr21, vr22, vr23, vr24, vr25, vr26, vr27, vr28, vr29, vr30, vr31, vr32, vr33, vr34, opS, fpS, okP, pack, nAl, allocA, shId, leaves, fillA, fillR, splice, Nat.reduceLT, Nat.reduceEqDiff, Nat.reduceLeDiff, Nat.reduceAdd, Nat.reduceSub, Nat.reduceMul, Int.reduceBEq, Int.reduceBNe, Int.reduceLT, Int.reduceLE, Int.reduceEq, reduceIte, reduceCtorEq, da, int, boolA, h3, h4, h5, h7, h8, h9, k48, g, e, atI gi, cI gi, b2, b0, b1, bl, bo, bd, k25, hkey, hl, hhk, w1, a3]
            refine fin _ ?_ ?_ ?_ ?_ ?_ ?_ ?_
            · rw [hR]; simp [a3]
            all_goals simp only [↓vp, vq0, vq1, vq2, vq3, vr0, vr1, vr2, vr3, vr4, vr5, vr6, vr7, vr8, vr9, vr10, vr11, vr12, vr13, vr14, vr15, vr16, vr17, vr18, vr19, vr20, vr21, vr22, vr23, vr24, vr25, vr26, vr27, vr28, vr29, vr30, vr31, vr32, vr33, vr34, opS, fpS, okP, pack, nAl, allocA, shId, leaves, fillA, fillR, splice, Nat.reduceLT, Nat.reduceEqDiff, Nat.reduceLeDiff, Nat.reduceAdd, Nat.reduceSub, Nat.reduceMul, Int.reduceBEq, Int.reduceBNe, Int.reduceLT, Int.reduceLE, Int.reduceEq, reduceIte, reduceCtorEq, da, int, boolA, h3, h4, h5, h7, h8, h9]
        | false =>
          simp only [↓vp, vq0, vq1, vq2, vq3, vr0, vr1, vr2, vr3, vr4, vr5, vr6, vr7, vr8, vr9, vr10, vr11, vr12, vr13, vr14, vr15, vr16, vr17, vr18, vr19, vr20, vr21, vr22, vr23, vr24, vr25, vr26, vr27, vr28, vr29, vr30, vr31, vr32, vr33, vr34, opS, fpS, okP, pack, nAl, allocA, shId, leaves, fillA, fillR, splice, Nat.reduceLT, Nat.reduceEqDiff, Nat.reduceLeDiff, Nat.reduceAdd, Nat.reduceSub, Nat.reduceMul, Int.reduceBEq, Int.reduceBNe, Int.reduceLT, Int.reduceLE, Int.reduceEq, reduceIte, reduceCtorEq, da, int, boolA, h3, h4, h5, h7, h8, h9, k48, g, e, atI gi, cI gi, b2, b0, b1, bl, bo, bd, k25, hkey, hl, hhk, w1]
          refine fin _ ?_ ?_ ?_ ?_ ?_ ?_ ?_
          · rw [hR]; simp [rkM]
          all_goals simp only [↓vp, vq0, vq1, vq2, vq3, vr0, vr1, vr2, vr3, vr4, vr5, vr6, vr7, vr8, vr9, vr10, vr11, vr12, vr13, vr14, vr15, vr16, vr17, vr18, vr19, vr20, vr21, vr22, vr23, vr24, vr25, vr26, vr27, vr28, vr29, vr30, vr31, vr32, vr33, vr34, opS, fpS, okP, pack, nAl, allocA, shId, leaves, fillA, fillR, splice, Nat.reduceLT, Nat.reduceEqDiff, Nat.reduceLeDiff, Nat.reduceAdd, Nat.reduceSub, Nat.reduceMul, Int.reduceBEq, Int.reduceBNe, Int.reduceLT, Int.reduceLE, Int.reduceEq, reduceIte, reduceCtorEq, da, int, boolA, h3, h4, h5, h7, h8, h9]
    | false =>
      rw [e] at hd hR
      simp only [Bool.false_eq_true, if_false] at hd hR
      have gi : i < n.kids.length := by omega
      have w1 := wrap_succ (show i < 9223372036854775807 by omega)
      have hkey := hn.k.at_ gi
      by_cases i0 : i = 0
      · subst i0
        rw [AW_loop]
        unfold c57L0
        have w1' : IntKind.i64.wrap (((0 : Nat) : Int) + 1) = 1 := rfl
        have z : (((0 : Nat) : Int) == 0) = true := rfl
        simp only [↓vp, vq0, vq1, vq2, vq3, vr0, vr1, vr2, vr3, vr4, vr5, vr6, vr7, vr8, vr9, vr10, vr11, vr12, vr13, vr14, vr15, vr16, vr17, vr18, vr19, vr20, vr21, vr22, vr23, vr24, vr25, vr26, vr27, vr28, vr29, vr30, vr31, vr32, vr33, vr34, opS, fpS, okP, pack, nAl, allocA, shId, leaves, fillA, fillR, splice, Nat.reduceLT, Nat.reduceEqDiff, Nat.reduceLeDiff, Nat.reduceAdd, Nat.reduceSub, Nat.reduceMul, Int.reduceBEq, Int.reduceBNe, Int.reduceLT, Int.reduceLE, Int.reduceEq, reduceIte, reduceCtorEq, da, int, boolA, h3, h4, h5, h7, h8, h9, k48, g, e, atK gi, cK gi, w1', z]
        refine ih 1 lis last eq _ hl (by unfold manyN; rw [e]; simp; omega) (by rw [e]; simpa using hR) ?_ ?_ ?_ ?_ ?_ ?_ <;> simp only [↓vp, vq0, vq1, vq2, vq3, vr0, vr1, vr2, vr3, vr4, vr5, vr6, vr7, vr8, vr9, vr10, vr11, vr12, vr13, vr14, vr15, vr16, vr17, vr18, vr19, vr20, vr21, vr22, vr23, vr24, vr25, vr26, vr27, vr28, vr29, vr30, vr31, vr32, vr33, vr34, opS, fpS, okP, pack, nAl, allocA, shId, leaves, fillA, fillR, splice, Nat.reduceLT, Nat.reduceEqDiff, Nat.reduceLeDiff, Nat.reduceAdd, Nat.reduceSub, Nat.reduceMul, Int.reduceBEq, Int.reduceBNe, Int.reduceLT, Int.reduceLE, Int.reduceEq, reduceIte, reduceCtorEq, da, int, boolA, h3, h4, h5, h7, h8, Int.natCast_one, Int.ofNat_one, Int.cast_ofNat_Int]
      · have z : ((i : Int) == 0) = false := by simp; omega
        rw [if_neg i0, List.drop_eq_getElem_cons gi, List.map_cons, rkM] at hR
        have fin : ∀ (f : Nat → AV), R = rkM hi hk true n.kids[i].key false ((n.kids.drop (i + 1)).map (·.key)) → f 3 = .ptr 0 0 0 → f 4 = .ptr 1 0 0 → f 5 = .ptr 2 0 0 → f 7 = .ptr 3 0 0 → f 8 = boolA false → f 9 = int (i + 1 : Nat) →
            AW ft (.loop c57L0) (mkE 62 f) (hx Heap.empty [.box false (nodeC n), .box false (bndC li lk), .box false (bndC hi hk), .box false (bndC true n.kids[i].key)]) Q := fun f hr q3 q4 q5 q7 q8 q9 =>
          ih (i + 1) true n.kids[i].key false f hkey (by unfold manyN; rw [e]; simp; omega) (by rw [e]; simpa using hr) q3 q4 q5 q7 q8 q9
        rw [AW_loop]
        unfold c57L0
        cases lis with
        | true =>
          cases a4 : decide (cmpB n.kids[i].key last < 0) with
          | true =>
            simp only [↓vp, vq0, vq1, vq2, vq3, vr0, vr1, vr2, vr3, vr4, vr5, vr6, vr7, vr8, vr9, vr10, vr11, vr12, vr13, vr14, vr15, vr16, vr17, vr18, vr19, vr20, vr21, vr22, vr23, vr24, vr25, vr26, vr27, vr28, vr29, vr30, vr31, vr32, vr33, vr34, opS, fpS, okP, pack, nAl, allocA, shId, leaves, fillA, fillR, splice, Nat.reduceLT, Nat.reduceEqDiff, Nat.reduceLeDiff, Nat.reduceAdd, Nat.reduceSub, Nat.reduceMul, Int.reduceBEq, Int.reduceBNe, Int.reduceLT, Int.reduceLE, Int.reduceEq, reduceIte, reduceCtorEq, da, int, boolA, h3, h4, h5, h7, h8, h9, k48, g, e, z, atK gi, cK gi, b2, b0, b1, bl, bo, bd, k25, hkey, hl, hhk, a4]
            refine hret _ _ (by rw [hR]; simp [a4]) ?_
            simp only [↓vp, vq0, vq1, vq2, vq3, vr0, vr1, vr2, vr3, vr4, vr5, vr6, vr7, vr8, vr9, vr10, vr11, vr12, vr13, vr14, vr15, vr16, vr17, vr18, vr19, vr20, vr21, vr22, vr23, vr24, vr25, vr26, vr27, vr28, vr29, vr30, vr31, vr32, vr33, vr34, opS, fpS, okP, pack, nAl, allocA, shId, leaves, fillA, fillR, splice, Nat.reduceLT, Nat.reduceEqDiff, Nat.reduceLeDiff, Nat.reduceAdd, Nat.reduceSub, Nat.reduceMul, Int.reduceBEq, Int.reduceBNe, Int.reduceLT, Int.reduceLE, Int.reduceEq, reduceIte, reduceCtorEq, da, int, boolA]
          | false =>
            cases a5 : (cmpB n.kids[i].key last == 0) with
            | true =>
              cases eq with
              | true =>
                cases hi with
                | true =>
                  cases a3 : decide (0 ≤ cmpB n.kids[i].key hk) with
                  | true =>
                    simp only [↓vp, vq0, vq1, vq2, vq3, vr0, vr1, vr2, vr3, vr4, vr5, vr6, vr7, vr8, vr9, vr10, vr11, vr12, vr13, vr14, vr15, vr16, vr17, vr18, vr19, vr20, vr21, vr22, vr23, vr24, vr25, vr26, vr27, vr28, vr29, vr30, vr31, vr32, vr33, vr34, opS, fpS, okP, pack, nAl, allocA, shId, leaves, fillA, fillR, splice, Nat.reduceLT, Nat.reduceEqDiff, Nat.reduceLeDiff, Nat.reduceAdd, Nat.reduceSub, Nat.reduceMul, Int.reduceBEq, Int.reduceBNe, Int.reduceLT, Int.reduceLE, Int.reduceEq, reduceIte, reduceCtorEq, da, int, boolA, h3, h4, h5, h7, h8, h9, k48, g, e, z, atK gi, cK gi, b2, b0, b1, bl, bo, bd, k25, hkey, hl, hhk, a4, a5, a3]
                    refine hret _ _ (by rw [hR]; simp [a4, a5, a3]) ?_
                    simp only [↓vp, vq0, vq1, vq2, vq3, vr0, vr1, vr2, vr3, vr4, vr5, vr6, vr7, vr8, vr9, vr10, vr11, vr12, vr13, vr14, vr15, vr16, vr17, vr18, vr19, vr20, vr21, vr22, vr23, vr24, vr25, vr26, vr27, vr28, vr29, vr30, vr31, vr32, vr33, vr34, opS, fpS, okP, pack, nAl, allocA, shId, leaves, fillA, fillR, splice, Nat.reduceLT, Nat.reduceEqDiff, Nat.reduceLeDiff, Nat.reduceAdd, Nat.reduceSub, Nat.reduceMul, Int.reduceBEq, Int.reduceBNe, Int.reduceLT, Int.reduceLE, Int.reduceEq, reduceIte, reduceCtorEq, da, int, boolA]
                  | false =>
                    simp only [↓vp, vq0, vq1, vq2, vq3, vr0, vr1, vr2, vr3, vr4, vr5, vr6, vr7, vr8, vr9, vr10, vr11, vr12, vr13, vr14, vr15, vr16, vr17, vr18, vr19, vr20, vr21, vr22, vr23, vr24, vr25, vr26, vr27, vr28, vr29, vr30, vr31, vr32, vr33, vr34, opS, fpS, okP, pack, nAl, allocA, shId, leaves, fillA, fillR, splice, Nat.reduceLT, Nat.reduceEqDiff, Nat.reduceLeDiff, Nat.reduceAdd, Nat.reduceSub, Nat.reduceMul, Int.reduceBEq, Int.reduceBNe, Int.reduceLT, Int.reduceLE, Int.reduceEq, reduceIte, reduceCtorEq, da, int, boolA, h3, h4, h5, h7, h8, h9, k48, g, e, z, atK gi, cK gi, b2, b0, b1, bl, bo, bd, k25, hkey, hl, hhk, w1, a4, a5, a3]
                    refine fin _ ?_ ?_ ?_ ?_ ?_ ?_ ?_
                    · rw [hR]; simp [a4, a5, a3]
                    all_goals simp only [↓vp, vq0, vq1, vq2, vq3, vr0, vr1, vr2, vr3, vr4, vr5, vr6, vr7, vr8, vr9, vr10, vr11, vr12, vr13, vr14, vr15, vr16, vr17, vr18, vr19, vr20, vr21, vr22, vr23, vr24, vr25, vr26, vr27, vr28, vr29, vr30, vr31, vr32, vr33, vr34, opS, fpS, okP, pack, nAl, allocA, shId, leaves, fillA, fillR, splice, Nat.reduceLT, Nat.reduceEqDiff, Nat.reduceLeDiff, Nat.reduceAdd, Nat.reduceSub, Nat.reduceMul, Int.reduceBEq, Int.reduceBNe, Int.reduceLT, Int.reduceLE, Int.reduceEq, reduceIte, reduceCtorEq, da, int, boolA, h3, h4, h5, h7, h8, h9]
                | false =>
                  simp only [↓vp, vq0, vq1, vq2, vq3, vr0, vr1, vr2, vr3, vr4, vr5, vr6, vr7, vr8, vr9, vr10, vr11, vr12, vr13, vr14, vr15, vr16, vr17, vr18, vr19, vr20, vr21, vr22, vr23, vr24, vr25, vr26, vr27, vr28, vr29, vr30, vr31, vr32, vr33, vr34, opS, fpS, okP, pack, nAl, allocA, shId, leaves, fillA, fillR, splice, Nat.reduceLT, Nat.reduceEqDiff, Nat.reduceLeDiff, Nat.reduceAdd, Nat.reduceSub, Nat.reduceMul, Int.reduceBEq, Int.reduceBNe, Int.reduceLT, Int.reduceLE, Int.reduceEq, reduceIte, reduceCtorEq, da, int, boolA, h3, h4, h5, h7, h8, h9, k48, g, e, z, atK gi, cK gi, b2, b0, b1, bl, bo, bd, k25, hkey, hl, hhk, w1, a4, a5]
                  refine fin _ ?_ ?_ ?_ ?_ ?_ ?_ ?_
                  · rw [hR]; simp [a4, a5]
                  all_goals simp only [↓vp, vq0, vq1, vq2, vq3, vr0, vr1, vr2, vr3, vr4, vr5, vr6, vr7, vr8, vr9, vr10, vr11, vr12, vr13, vr14, vr15, vr16, vr17, vr18, vr19, vr20, vr21, vr22, vr23, vr24, vr25, vr26, vr27, vr28, vr29, vr30, vr31, vr32, vr33, vr34, opS, fpS, okP, pack, nAl, allocA, shId, leaves, fillA, fillR, splice, Nat.reduceLT, Nat.reduceEqDiff, Nat.reduceLeDiff, Nat.reduceAdd, Nat.reduceSub, Nat.reduceMul, Int.reduceBEq, Int.reduceBNe, Int.reduceLT, Int.reduceLE, Int.reduceEq, reduceIte, reduceCtorEq, da, int, boolA, h3, h4, h5, h7, h8, h9]
              | false =>
                simp only [↓vp, vq0, vq1, vq2, vq3, vr0, vr1, vr2, vr3, vr4, vr5, vr6, vr7, vr8, vr9, vr10, vr11, vr12, vr13, vr14, vr15, vr16, vr17, vr18, vr19, vr20, vr21, vr22, vr23, vr24, vr25, vr26, vr27, vr28, vr29, vr30, vr31, vr32, vr33, vr34, opS, fpS, okP, pack, nAl, allocA, shId, leaves, fillA, fillR, splice, Nat.reduceLT, Nat.reduceEqDiff, Nat.reduceLeDiff, Nat.reduceAdd, Nat.reduceSub, Nat.reduceMul, Int.reduceBEq, Int.reduceBNe, Int.reduceLT, Int.reduceLE, Int.reduceEq, reduceIte, reduceCtorEq, da, int, boolA, h3, h4, h5, h7, h8, h9, k48, g, e, z, atK gi, cK gi, b2, b0, b1, bl, bo, bd, k25, hkey, hl, hhk, a4, a5]
                refine hret _ _ (by rw [hR]; simp [a4, a5]) ?_
                simp only [↓vp, vq0, vq1, vq2, vq3, vr0, vr1, vr2, vr3, vr4, vr5, vr6, vr7, vr8, vr9, vr10, vr11, vr12, vr13, vr14, vr15, vr16, vr17, vr18, vr19, vr20, vr21, vr22, vr23, vr24, vr25, vr26, vr27, vr28, vr29, vr30, vr31, vr32, vr33, vr34, opS, fpS, okP, pack, nAl, allocA, shId, leaves, fillA, fillR, splice, Nat.reduceLT, Nat.reduceEqDiff, Nat.reduceLeDiff, Nat.reduceAdd, Nat.reduceSub, Nat.reduceMul, Int.reduceBEq, Int.reduceBNe, Int.reduceLT, Int.reduceLE, Int.reduceEq, reduceIte, reduceCtorEq, da, int, boolA]
            | false =>
              cases hi with
              | true =>
                cases a3 : decide (0 ≤ cmpB n.kids[i].key hk) with
                | true =>
                  simp only [↓vp, vq0, vq1, vq2, vq3, vr0, vr1, vr2, vr3, vr4, vr5, vr6, vr7, vr8, vr9, vr10, vr11, vr12, vr13, vr14, vr15, vr16, vr17, vr18, vr19, vr20, vr21, vr22, vr23, vr24, vr25, vr26, vr27, vr28, vr29, vr30, vr31, vr32, vr33, vr34, opS, fpS, okP, pack, nAl, allocA, shId, leaves, fillA, fillR, splice, Nat.reduceLT, Nat.reduceEqDiff, Nat.reduceLeDiff, Nat.reduceAdd, Nat.reduceSub, Nat.reduceMul, Int.reduceBEq, Int.reduceBNe, Int.reduceLT, Int.reduceLE, Int.reduceEq, reduceIte, reduceCtorEq, da, int, boolA, h3, h4, h5, h7, h8, h9, k48, g, e, z, atK gi, cK gi, b2, b0, b1, bl, bo, bd, k25, hkey, hl, hhk, a4, a5, a3]
                  refine hret _ _ (by rw [hR]; simp [a4, a5, a3]) ?_
                  simp only [↓vp, vq0, vq1, vq2, vq3, vr0, vr1, vr2, vr3, vr4, vr5, vr6, vr7, vr8, vr9, vr10, vr11, vr12, vr13, vr14, vr15, vr16, vr17, vr18, vr19, vr20, vr21, vr22, vr23, vr24, vr25, vr26, vr27, vr28, vr29, vr30, vr31, vr32, vr33, vr34, opS, fpS, okP, pack, nAl, allocA, shId, leaves, fillA, fillR, splice, Nat.reduceLT, Nat.reduceEqDiff, Nat.reduceLeDiff, Nat.reduceAdd, Nat.reduceSub, Nat.reduceMul, Int.reduceBEq, Int.reduceBNe, Int.reduceLT, Int.reduceLE, Int.reduceEq, reduceIte, reduceCtorEq, da, int, boolA]
                | false =>
                  simp only [↓vp, vq0, vq1, vq2, vq3, vr0, vr1, vr2, vr3, vr4, vr5, vr6, vr7, vr8, vr9, vr10, vr11, vr12, vr13, vr14, vr15, vr16, vr17, vr18, vr19, vr20, vr21, vr22, vr23, vr24, vr25, vr26, vr27, vr28, vr29, vr30, vr31, vr32, vr33, vr34, opS, fpS, okP, pack, nAl, allocA, shId, leaves, fillA, fillR, splice, Nat.reduceLT, Nat.reduceEqDiff, Nat.reduceLeDiff, Nat.reduceAdd, Nat.reduceSub, Nat.reduceMul, Int.reduceBEq, Int.reduceBNe, Int.reduceLT, Int.reduceLE, Int.reduceEq, reduceIte, reduceCtorEq, da, int, boolA, h3, h4, h5, h7, h8, h9, k48, g, e, z, atK gi, cK gi, b2, b0, b1, bl, bo, bd, k25, hkey, hl, hhk, w1, a4, a5, a3]
                  refine fin _ ?_ ?_ ?_ ?_ ?_ ?_ ?_
                  · rw [hR]; simp [a4, a5, a3]
                  all_goals simp only [↓vp, vq0, vq1, vq2, vq3, vr0, vr1, vr2, vr3, vr4, vr5, vr6, vr7, vr8, vr9, vr10, vr11, vr12, vr13, vr14, vr15, vr16, vr17, vr18, vr19, vr20, vr21, vr22, vr23, vr24, vr25, vr26, vr27, vr28, vr29, vr30, vr31, vr32, vr33, vr34, opS, fpS, okP, pack, nAl, allocA, shId, leaves, fillA, fillR, splice, Nat.reduceLT, Nat.reduceEqDiff, Nat.reduceLeDiff, Nat.reduceAdd, Nat.reduceSub, Nat.reduceMul, Int.reduceBEq, Int.reduceBNe, Int.reduceLT, Int.reduceLE, Int.reduceEq, reduceIte, reduceCtorEq, da, int, boolA, h3, h4, h5, h7, h8, h9]
              | false =>
                simp only [↓vp, vq0, vq1, vq2, vq3, vr0, vr1, vr2, vr3, vr4, vr5, vr6, vr7, vr8, vr9, vr10, vr11, vr12, vr13, vr14, vr15, vr16, vr17, vr18, vr19, vr20, vr21, vr22, vr23, vr24, vr25, vr26, vr27, vr28, vr29, vr30, vr31, vr32, vr33, vr34, opS, fpS, okP, pack, nAl, allocA, shId, leaves, fillA, fillR, splice, Nat.reduceLT, Nat.reduceEqDiff, Nat.reduceLeDiff, Nat.reduceAdd, Nat.reduceSub, Nat.reduceMul, Int.reduceBEq, Int.reduceBNe, Int.reduceLT, Int.reduceLE, Int.reduceEq, reduceIte, reduceCtorEq, da, int, boolA, h3, h4, h5, h7, h8, h9, k48, g, e, z, atK gi, cK gi, b2, b0, b1, bl, bo, bd, k25, hkey, hl, hhk, w1, a4, a5]
                refine fin _ ?_ ?_ ?_ ?_ ?_ ?_ ?_
                · rw [hR]; simp [a4, a5]
                all_goals simp only [↓vp, vq0, vq1, vq2, vq3, vr0, vr1, vr2, vr3, vr4, vr5, vr6, vr7, vr8, vr9, vr10, vr11, vr12, vr13, vr14, vr15, vr16, vr17, vr18, vr19, vr20, vr21, vr22, vr23, vr24, vr25, vr26, vr27, vr28, vr29, vr30, vr31, vr32, vr33, vr34, opS, fpS, okP, pack, nAl, allocA, shId, leaves, fillA, fillR, splice, Nat.reduceLT, Nat.reduceEqDiff, Nat.reduceLeDiff, Nat.reduceAdd, Nat.reduceSub, Nat.reduceMul, Int.reduceBEq, Int.reduceBNe, Int.reduceLT, Int.reduceLE, Int.reduceEq, reduceIte, reduceCtorEq, da, int, boolA, h3, h4, h5, h7, h8, h9]
        | false =>
          cases hi with
          | true =>
            cases a3 : decide (0 ≤ cmpB n.kids[i].key hk) with
            | true =>
              simp only [↓vp, vq0, vq1, vq2, vq3, vr0, vr1, vr2, vr3, vr4, vr5, vr6, vr7, vr8, vr9, vr10, vr11, vr12, vr13, vr14, vr15, vr16, vr17, vr18, vr19, vr20, vr21, vr22, vr23, vr24, vr25, vr26, vr27, vr28, vr29, vr30, vr31, vr32, vr33, vr34, opS, fpS, okP, pack, nAl, allocA, shId, leaves, fillA, fillR, splice, Nat.reduceLT, Nat.reduceEqDiff, Nat.reduceLeDiff, Nat.reduceAdd, Nat.reduceSub, Nat.reduceMul, Int.reduceBEq, Int.reduceBNe, Int.reduceLT, Int.reduceLE, Int.reduceEq, reduceIte, reduceCtorEq, da, int, boolA, h3, h4, h5, h7, h8, h9, k48, g, e, z, atK gi, cK gi, b2, b0, b1, bl, bo, bd, k25, hkey, hl, hhk, a3]
              refine hret _ _ (by rw [hR]; simp [a3]) ?_
              simp only [↓vp, vq0, vq1, vq2, vq3, vr0, vr1, vr2, vr3, vr4, vr5, vr6, vr7, vr8, vr9, vr10, vr11, vr12, vr13, vr14, vr15, vr16, vr17, vr18, vr19, vr20, vr21, vr22, vr23, vr24, vr25, vr26, vr27, vr28, vr29, vr30, vr31, vr32, vr33, vr34, opS, fpS, okP, pack, nAl, allocA, shId, leaves, fillA, fillR, splice, Nat.reduceLT, Nat.reduceEqDiff, Nat.reduceLeDiff, Nat.reduceAdd, Nat.reduceSub, Nat.reduceMul, Int.reduceBEq, Int.reduceBNe, Int.reduceLT, Int.reduceLE, Int.reduceEq, reduceIte, reduceCtorEq, da, int, boolA]
            | false =>
              simp only [↓vp, vq0, vq1, vq2, vq3, vr0, vr1, vr2, vr3, vr4, vr5, vr6, vr7, vr8, vr9, vr10, vr11, vr12, vr13, vr14, vr15, vr16, vr17, vr18, vr19, vr20, vr21, vr22, vr23, vr24, vr25, vr26, vr27, vr28, vr29, vr30, vr31, vr32, vr33, vr34, opS, fpS, okP, pack, nAl, allocA, shId, leaves, fillA, fillR, splice, Nat.reduceLT, Nat.reduceEqDiff, Nat.reduceLeDiff, Nat.reduceAdd, Nat.reduceSub, Nat.reduceMul, Int.reduceBEq, Int.reduceBNe, Int.reduceLT, Int.reduceLE, Int.reduceEq, reduceIte, reduceCtorEq, da, int, boolA, h3, h4, h5, h7, h8, h9, k48, g, e, z, atK gi, cK gi, b2, b0, b1, bl, bo, bd, k25, hkey, hl, hhk, w1, a3]
              refine fin _ ?_ ?_ ?_ ?_ ?_ ?_ ?_
              · rw [hR]; simp [a3]
              all_goals simp only [↓vp, vq0, vq1, vq2, vq3, vr0, vr1, vr2, vr3, vr4, vr5, vr6, vr7, vr8, vr9, vr10, vr11, vr12, vr13, vr14, vr15, vr16, vr17, vr18, vr19, vr20, vr21, vr22, vr23, vr24, vr25, vr26, vr27, vr28, vr29, vr30, vr31, vr32, vr33, vr34, opS, fpS, okP, pack, nAl, allocA, shId, leaves, fillA, fillR, splice, Nat.reduceLT, Nat.reduceEqDiff, Nat.reduceLeDiff, Nat.reduceAdd, Nat.reduceSub, Nat.reduceMul, Int.reduceBEq, Int.reduceBNe, Int.reduceLT, Int.reduceLE, Int.reduceEq, reduceIte, reduceCtorEq, da, int, boolA, h3, h4, h5, h7, h8, h9]
          | false =>
            simp only [↓vp, vq0, vq1, vq2, vq3, vr0, vr1, vr2, vr3, vr4, vr5, vr6, vr7, vr8, vr9, vr10, vr11, vr12, vr13, vr14, vr15, vr16, vr17, vr18, vr19, vr20, vr21, vr22, vr23, vr24, vr25, vr26, vr27, vr28, vr29, vr30, vr31, vr32, vr33, vr34, opS, fpS, okP, pack, nAl, allocA, shId, leaves, fillA, fillR, splice, Nat.reduceLT, Nat.reduceEqDiff, Nat.reduceLeDiff, Nat.reduceAdd, Nat.reduceSub, Nat.reduceMul, Int.reduceBEq, Int.reduceBNe, Int.reduceLT, Int.reduceLE, Int.reduceEq, reduceIte, reduceCtorEq, da, int, boolA, h3, h4, h5, h7, h8, h9, k48, g, e, z, atK gi, cK gi, b2, b0, b1, bl, bo, bd, k25, hkey, hl, hhk, w1]
            refine fin _ ?_ ?_ ?_ ?_ ?_ ?_ ?_
            · rw [hR]; simp [rkM]
            all_goals simp only [↓vp, vq0, vq1, vq2, vq3, vr0, vr1, vr2, vr3, vr4, vr5, vr6, vr7, vr8, vr9, vr10, vr11, vr12, vr13, vr14, vr15, vr16, vr17, vr18, vr19, vr20, vr21, vr22, vr23, vr24, vr25, vr26, vr27, vr28, vr29, vr30, vr31, vr32, vr33, vr34, opS, fpS, okP, pack, nAl, allocA, shId, leaves, fillA, fillR, splice, Nat.reduceLT, Nat.reduceEqDiff, Nat.reduceLeDiff, Nat.reduceAdd, Nat.reduceSub, Nat.reduceMul, Int.reduceBEq, Int.reduceBNe, Int.reduceLT, Int.reduceLE, Int.reduceEq, reduceIte, reduceCtorEq, da, int, boolA, h3, h4, h5, h7, h8, h9]
theorem s57 {n : NodeM} (hn : okN n) {li hi : Bool} {lk hk : Bytes} (hl : okB lk) (hh : okB hk) (H : Heap) :
    callL ft (.fn (.func 57) [] []) [.agg (nodeC n), .agg (bndC li lk), .agg (bndC hi hk)] H = some (boolA (rkM hi hk li lk true (keys2 n)), H) := by
  refine call_p (as' := [.agg (nodeC n), .agg (bndC li lk), .agg (bndC hi hk)]) rfl rfl (by simp) ?_
  unfold c57 r57
  simp only [↓vp, vq0, vq1, vq2, vq3, vr0, vr1, vr2, vr3, vr4, vr5, vr6, vr7, vr8, vr9, vr10, vr11, vr12, vr13, vr14, vr15, vr16, vr17, vr18, vr19, vr20, vr21, vr22, vr23, vr24, vr25, vr26, vr27, vr28, vr29, vr30, vr31, vr32, vr33, vr34, opS, fpS, okP, pack, nAl, allocA, shId, leaves, fillA, fillR, splice, Nat.reduceLT, Nat.reduceEqDiff, Nat.reduceLeDiff, Nat.reduceAdd, Nat.reduceSub, Nat.reduceMul, Int.reduceBEq, Int.reduceBNe, Int.reduceLT, Int.reduceLE, Int.reduceEq, reduceIte, reduceCtorEq, da, int, boolA, b2, bl, bo]
  refine l57 n hn li lk hi hk hh (rkM hi hk li lk true (keys2 n)) (fun f' L hR => ?_) (fun f' L hR h6 => ?_) (if n.leaf then n.items.length else n.kids.length) 0 li lk true _ hl ?_ ?_ ?_ ?_ ?_ ?_ ?_ ?_
  · unfold c57R1
    simp only [↓vp, vq0, vq1, vq2, vq3, vr0, vr1, vr2, vr3, vr4, vr5, vr6, vr7, vr8, vr9, vr10, vr11, vr12, vr13, vr14, vr15, vr16, vr17, vr18, vr19, vr20, vr21, vr22, vr23, vr24, vr25, vr26, vr27, vr28, vr29, vr30, vr31, vr32, vr33, vr34, opS, fpS, okP, pack, nAl, allocA, shId, leaves, fillA, fillR, splice, Nat.reduceLT, Nat.reduceEqDiff, Nat.reduceLeDiff, Nat.reduceAdd, Nat.reduceSub, Nat.reduceMul, Int.reduceBEq, Int.reduceBNe, Int.reduceLT, Int.reduceLE, Int.reduceEq, reduceIte, reduceCtorEq, da, int, boolA, RetP_go, resT, resC, resN, retV1, retV2, retV3, retV0, frzFZ, takeM, Option.some.injEq, hR]
  · simp only [↓vp, vq0, vq1, vq2, vq3, vr0, vr1, vr2, vr3, vr4, vr5, vr6, vr7, vr8, vr9, vr10, vr11, vr12, vr13, vr14, vr15, vr16, vr17, vr18, vr19, vr20, vr21, vr22, vr23, vr24, vr25, vr26, vr27, vr28, vr29, vr30, vr31, vr32, vr33, vr34, opS, fpS, okP, pack, nAl, allocA, shId, leaves, fillA, fillR, splice, Nat.reduceLT, Nat.reduceEqDiff, Nat.reduceLeDiff, Nat.reduceAdd, Nat.reduceSub, Nat.reduceMul, Int.reduceBEq, Int.reduceBNe, Int.reduceLT, Int.reduceLE, Int.reduceEq, reduceIte, reduceCtorEq, da, int, boolA, RetP_go, resT, resC, resN, retV1, retV2, retV3, retV0, frzFZ, takeM, Option.some.injEq, h6, hR]
  · unfold manyN
    cases n.leaf <;> simp
  · unfold keys2
    cases n.leaf <;> simp
  all_goals first | rfl | (simp only [↓vp, vq0, vq1, vq2, vq3, vr0, vr1, vr2, vr3, vr4, vr5, vr6, vr7, vr8, vr9, vr10, vr11, vr12, vr13, vr14, vr15, vr16, vr17, vr18, vr19, vr20, vr21, vr22, vr23, vr24, vr25, vr26, vr27, vr28, vr29, vr30, vr31, vr32, vr33, vr34, opS, fpS, okP, pack, nAl, allocA, shId, leaves, fillA, fillR, splice, Nat.reduceLT, Nat.reduceEqDiff, Nat.reduceLeDiff, Nat.reduceAdd, Nat.reduceSub, Nat.reduceMul, Int.reduceBEq, Int.reduceBNe, Int.reduceLT, Int.reduceLE, Int.reduceEq, reduceIte, reduceCtorEq, da, int, boolA]; done)
theorem k57 {n : NodeM} (hn : okN n) {li hi : Bool} {lk hk : Bytes} (hl : okB lk) (hh : okB hk) {K : Heap} {L : List Blk} {Q : AV → Heap → Prop} :
    KW ft (.fn (.func 57) [] []) [.agg (nodeC n), .agg (bndC li lk), .agg (bndC hi hk)] (hx K L) Q ↔ Q (boolA (rkM hi hk li lk true (keys2 n))) (hx K L) := KW_of (s57 hn hl hh _)
end Go.VI

/- VI, part TB: the document's All: plain laws, and its loops. -/
set_option linter.unusedVariables false
set_option linter.unusedSimpArgs false
set_option maxRecDepth 100000
namespace Go.VI
attribute [local congr] AW_congr OW_congr DW_congr NW_congr VW_congr GW_congr PW_congr KW_congr ite_congr' GV_congr CV_congr

/-! ### the two ways to look at keys agree -/
theorem cmpB_gt {a b : Bytes} : cmpB a b < 0 ↔ 0 < cmpB b a := by
  have := cmpB_swap a b
  omega
theorem rk_some (p : PlaceM) : ∀ (l : List Bytes) (y : Bytes), (p.li = true → 0 ≤ cmpB y p.lk) → rkM p.hi p.hk true y false l = ksM p (some y) l
  | [], y, _ => rfl
  | x :: l, y, h => by
    rw [rkM, ksM]
    have h1 : (!(true && (decide (cmpB x y < 0) || (cmpB x y == 0 && !false)))) = decide (cmpB y x < 0) := by
      have := cmpB_swap x y
      by_cases a : cmpB x y < 0
      · have : ¬ cmpB y x < 0 := by omega
        simp [a, this]
      · by_cases b : cmpB x y = 0
        · have : ¬ cmpB y x < 0 := by omega
          simp [b, this]
        · have : cmpB y x < 0 := by omega
          simp [a, b, this]
    rw [h1]
    by_cases a : cmpB y x < 0
    · have hlow : p.li = true → 0 ≤ cmpB x p.lk := fun hp => by
        have h2 := h hp
        have h3 := cmpB_swap y p.lk
        have h4 := cmpB_swap x p.lk
        have := cmpB_trans x y p.lk
        by_cases c : cmpB x p.lk < 0
        · have h5 := cmpB_trans y x p.lk a (by omega)
          omega
        · omega
      rw [rk_some p l x hlow]
      simp only [a, decide_true, Bool.true_and, Option.elim_some, bndM, Bool.and_true]
      have h5 : (!p.li || decide (0 ≤ cmpB x p.lk)) = true := by
        cases hp : p.li with
        | false => rfl
        | true => simp [hlow hp]
      have h6 : (!(p.hi && decide (0 ≤ cmpB x p.hk))) = (!p.hi || decide (cmpB x p.hk < 0)) := by
        cases p.hi with
        | false => rfl
        | true =>
          by_cases c : 0 ≤ cmpB x p.hk
          · have : ¬ cmpB x p.hk < 0 := by omega
            simp [c, this]
          · have : cmpB x p.hk < 0 := by omega
            simp [c, this]
      rw [h5, h6, Bool.true_and]
    · simp [a]
theorem rk_ks (p : PlaceM) (l : List Bytes) : rkM p.hi p.hk p.li p.lk true l = ksM p none l := by
  cases l with
  | nil => rfl
  | cons x l =>
    rw [rkM, ksM]
    have h1 : (!(p.li && (decide (cmpB x p.lk < 0) || (cmpB x p.lk == 0 && !true)))) = (!p.li || decide (0 ≤ cmpB x p.lk)) := by
      cases p.li with
      | false => rfl
      | true =>
        by_cases c : cmpB x p.lk < 0
        · have : ¬ 0 ≤ cmpB x p.lk := by omega
          simp [c, this]
        · have : 0 ≤ cmpB x p.lk := by omega
          simp [c, this]
    have h6 : (!(p.hi && decide (0 ≤ cmpB x p.hk))) = (!p.hi || decide (cmpB x p.hk < 0)) := by
      cases p.hi with
      | false => rfl
      | true =>
        by_cases c : 0 ≤ cmpB x p.hk
        · have : ¬ cmpB x p.hk < 0 := by omega
          simp [c, this]
        · have : cmpB x p.hk < 0 := by omega
          simp [c, this]
    rw [h1, h6]
    by_cases c : (!p.li || decide (0 ≤ cmpB x p.lk)) = true
    · rw [rk_some p l x (fun hp => by rw [hp] at c; simpa using c)]
      simp only [bndM, c, Bool.true_and, Option.elim_none, Bool.and_true]
    · have c' : (!p.li || decide (0 ≤ cmpB x p.lk)) = false := by simpa using c
      simp only [bndM, c', Bool.false_and]
/-- The document's check is the program's. -/
def wrongM (w : WM) (p : PlaceM) (n : NodeM) : Bool :=
  !rkM p.hi p.hk p.li p.lk true (keys2 n) || w.refs.contains p.ref ||
    (if n.leaf then decide (0 < (n.kids.length : Int)) || (((n.items.length : Int) == 0 && decide (1 < p.deep)) || (decide (0 < w.depth) && w.depth != p.deep))
     else decide ((n.kids.length : Int) < 2) || decide (0 < (n.items.length : Int)))
theorem wrong_eq (w : WM) (p : PlaceM) (n : NodeM) (hd : 1 ≤ p.deep) : wrongM w p n = (w.refs.contains p.ref || !formM w.depth p n) := by
  unfold wrongM formM
  rw [rk_ks]
  cases hc : w.refs.contains p.ref with
  | true => simp
  | false =>
    cases hl : n.leaf with
    | true =>
      by_cases hk : 0 < (n.kids.length : Int)
      · have hk' : 0 < n.kids.length := by omega
        simp [hk']
      · have hk0 : n.kids = [] := List.eq_nil_of_length_eq_zero (by omega)
        have e : keys2 n = keysM n := by simp [keys2, keysM, hl, hk0]
        have e1 : decide (1 < p.deep) = !(p.deep == 1) := by
          by_cases h : p.deep = 1
          · simp [h]
          · have : 1 < p.deep := by omega
            simp [h, this]
        rw [e, e1]
        cases ksM p none (keysM n) <;> simp [hk, Bool.or_assoc]
    | false =>
      by_cases hk : 0 < (n.items.length : Int)
      · have hk' : 0 < n.items.length := by omega
        simp [hk']
      · have hk0 : n.items = [] := List.eq_nil_of_length_eq_zero (by omega)
        have e : keys2 n = keysM n := by simp [keys2, keysM, hl, hk0]
        rw [e]
        cases ksM p none (keysM n) <;> cases h2 : decide ((n.kids.length : Int) < 2) <;> simp [hk0, h2] <;> simpa using h2
def wholeD (w : WM) (no : Int) : List AV := [encI w.items, encN w.refs, int w.depth, int no]
def resM (l : List NamedM) (d : Nat) (p : PlaceM) (w : WM) : WM × Int := if (visitM l d p w).1 = 0 then ((visitM l d p w).2, 0) else (w0, (visitM l d p w).1)
theorem atN {H : Heap} {l : List Int} {i : Nat} (h : i < l.length) : iaddrA H none 1 (encN l) (i : Int) = some (.pim (l.map intC) i 0) := iaddr_map h (fun _ => rfl)
theorem cN {H : Heap} {l : List Int} {i off n : Nat} (h : i < l.length) : cellsAt H (.pim (l.map intC) i off) n = if off + n ≤ 1 then some (((intC l[i]).drop off).take n) else none := cells_map h
theorem x_0 (r : Int) : (intC r).take 1 = [.sc (.int .i64 r)] := rfl
theorem l22a (l : List NamedM) (w : WM) (ref deep : Int) (b0 : Bool) (hr : w.refs.length ≤ 1000) {L : List Blk} (hL : L[2]? = some (.box false (wholeD w 0))) {Q : AExit → Env → Heap → Prop}
   (hex : ∀ f', f' 0 = encL l → f' 1 = int ref → f' 2 = int deep → f' 9 = .ptr 0 0 0 → f' 10 = .ptr 1 0 0 → f' 11 = .ptr 2 0 0 → f' 12 = .ptr 3 0 0 → f' 13 = .ptr 4 0 0 → f' 15 = boolA (b0 || w.refs.contains ref) → Q (.exit 0) (mkE 172 f') (hx Heap.empty L)) :
   ∀ (d i : Nat) (b : Bool) (f : Nat → AV), i + d = w.refs.length → (b0 || w.refs.contains ref) = (b || (w.refs.drop i).contains ref) → f 0 = encL l → f 1 = int ref → f 2 = int deep → f 9 = .ptr 0 0 0 → f 10 = .ptr 1 0 0 → f 11 = .ptr 2 0 0 → f 12 = .ptr 3 0 0 → f 13 = .ptr 4 0 0 →
    f 15 = boolA b → f 16 = int i → AW ft (.loop c22L0) (mkE 172 f) (hx Heap.empty L) Q := by
  have d1 : ((wholeD w 0).drop 1).take 1 = [encN w.refs] := rfl
  have dl : (wholeD w 0).length = 4 := rfl
  intro d
  induction d with
  | zero =>
    intro i b f hd hb h0 h1 h2 h9 h10 h11 h12 h13 h15 h16
    have g : ((i : Int) < w.refs.length) = False := eq_false (by omega)
    rw [AW_loop]
    unfold c22L0
    simp only [↓vp, vq0, vq1, vq2, vq3, vr0, vr1, vr2, vr3, vr4, vr5, vr6, vr7, vr8, vr9, vr10, vr11, vr12, vr13, vr14, vr15, vr16, vr17, vr18, vr19, vr20, vr21, vr22, vr23, vr24, vr25, vr26, vr27, vr28, vr29, vr30, vr31, vr32, vr33, vr34, opS, fpS, okP, pack, nAl, allocA, shId, leaves, fillA, fillR, splice, Nat.reduceLT, Nat.reduceEqDiff, Nat.reduceLeDiff, Nat.reduceAdd, Nat.reduceSub, Nat.reduceMul, Int.reduceBEq, Int.reduceBNe, Int.reduceLT, Int.reduceLE, Int.reduceEq, reduceIte, reduceCtorEq, da, int, boolA, h11, h16, hL, d1, dl, lenN, g]
    rw [List.drop_eq_nil_of_le (by omega), List.contains_nil, Bool.or_false] at hb
    refine hex _ ?_ ?_ ?_ ?_ ?_ ?_ ?_ ?_ ?_ <;> simp only [↓vp, vq0, vq1, vq2, vq3, vr0, vr1, vr2, vr3, vr4, vr5, vr6, vr7, vr8, vr9, vr10, vr11, vr12, vr13, vr14, vr15, vr16, vr17, vr18, vr19, vr20, vr21, vr22, vr23, vr24, vr25, vr26, vr27, vr28, vr29, vr30, vr31, vr32, vr33, vr34, opS, fpS, okP, pack, nAl, allocA, shId, leaves, fillA, fillR, splice, Nat.reduceLT, Nat.reduceEqDiff, Nat.reduceLeDiff, Nat.reduceAdd, Nat.reduceSub, Nat.reduceMul, Int.reduceBEq, Int.reduceBNe, Int.reduceLT, Int.reduceLE, Int.reduceEq, reduceIte, reduceCtorEq, da, int, boolA, h0, h1, h2, h9, h10, h11, h12, h13, h15, hb]
  | succ d ih =>
    intro i b f hd hb h0 h1 h2 h9 h10 h11 h12 h13 h15 h16
    have g : ((i : Int) < w.refs.length) = True := eq_true (by omega)
    have gi : i < w.refs.length := by omega
    have w1 := wrap_succ (show i < 9223372036854775807 by omega)
    rw [List.drop_eq_getElem_cons gi, List.contains_cons] at hb
    rw [AW_loop]
    unfold c22L0
    cases e : (w.refs[i] == ref) with
    | true =>
      have e' : (ref == w.refs[i]) = true := by rw [beq_iff_eq] at e ⊢; exact e.symm
      simp only [↓vp, vq0, vq1, vq2, vq3, vr0, vr1, vr2, vr3, vr4, vr5, vr6, vr7, vr8, vr9, vr10, vr11, vr12, vr13, vr14, vr15, vr16, vr17, vr18, vr19, vr20, vr21, vr22, vr23, vr24, vr25, vr26, vr27, vr28, vr29, vr30, vr31, vr32, vr33, vr34, opS, fpS, okP, pack, nAl, allocA, shId, leaves, fillA, fillR, splice, Nat.reduceLT, Nat.reduceEqDiff, Nat.reduceLeDiff, Nat.reduceAdd, Nat.reduceSub, Nat.reduceMul, Int.reduceBEq, Int.reduceBNe, Int.reduceLT, Int.reduceLE, Int.reduceEq, reduceIte, reduceCtorEq, da, int, boolA, h0, h1, h2, h9, h10, h11, h12, h13, h15, h16, hL, d1, dl, lenN, g, atN gi, cN gi, x_0, e, w1]
      refine ih (i + 1) true _ (by omega) (by rw [hb, e']; simp) ?_ ?_ ?_ ?_ ?_ ?_ ?_ ?_ ?_ ?_ <;> simp only [↓vp, vq0, vq1, vq2, vq3, vr0, vr1, vr2, vr3, vr4, vr5, vr6, vr7, vr8, vr9, vr10, vr11, vr12, vr13, vr14, vr15, vr16, vr17, vr18, vr19, vr20, vr21, vr22, vr23, vr24, vr25, vr26, vr27, vr28, vr29, vr30, vr31, vr32, vr33, vr34, opS, fpS, okP, pack, nAl, allocA, shId, leaves, fillA, fillR, splice, Nat.reduceLT, Nat.reduceEqDiff, Nat.reduceLeDiff, Nat.reduceAdd, Nat.reduceSub, Nat.reduceMul, Int.reduceBEq, Int.reduceBNe, Int.reduceLT, Int.reduceLE, Int.reduceEq, reduceIte, reduceCtorEq, da, int, boolA, h0, h1, h2, h9, h10, h11, h12, h13]
    | false =>
      have e' : (ref == w.refs[i]) = false := by
        cases h : (ref == w.refs[i]) with
        | false => rfl
        | true => rw [beq_iff_eq] at h; rw [h] at e; simp at e
      simp only [↓vp, vq0, vq1, vq2, vq3, vr0, vr1, vr2, vr3, vr4, vr5, vr6, vr7, vr8, vr9, vr10, vr11, vr12, vr13, vr14, vr15, vr16, vr17, vr18, vr19, vr20, vr21, vr22, vr23, vr24, vr25, vr26, vr27, vr28, vr29, vr30, vr31, vr32, vr33, vr34, opS, fpS, okP, pack, nAl, allocA, shId, leaves, fillA, fillR, splice, Nat.reduceLT, Nat.reduceEqDiff, Nat.reduceLeDiff, Nat.reduceAdd, Nat.reduceSub, Nat.reduceMul, Int.reduceBEq, Int.reduceBNe, Int.reduceLT, Int.reduceLE, Int.reduceEq, reduceIte, reduceCtorEq, da, int, boolA, h0, h1, h2, h9, h10, h11, h12, h13, h15, h16, hL, d1, dl, lenN, g, atN gi, cN gi, x_0, e, w1]
      refine ih (i + 1) b _ (by omega) (by rw [hb, e']; simp) ?_ ?_ ?_ ?_ ?_ ?_ ?_ ?_ ?_ ?_ <;> simp only [↓vp, vq0, vq1, vq2, vq3, vr0, vr1, vr2, vr3, vr4, vr5, vr6, vr7, vr8, vr9, vr10, vr11, vr12, vr13, vr14, vr15, vr16, vr17, vr18, vr19, vr20, vr21, vr22, vr23, vr24, vr25, vr26, vr27, vr28, vr29, vr30, vr31, vr32, vr33, vr34, opS, fpS, okP, pack, nAl, allocA, shId, leaves, fillA, fillR, splice, Nat.reduceLT, Nat.reduceEqDiff, Nat.reduceLeDiff, Nat.reduceAdd, Nat.reduceSub, Nat.reduceMul, Int.reduceBEq, Int.reduceBNe, Int.reduceLT, Int.reduceLE, Int.reduceEq, reduceIte, reduceCtorEq, da, int, boolA, h0, h1, h2, h9, h10, h11, h12, h13, h15]

/-! ### through the kids -/
def KeepB (H H' : Heap) : Prop := H.next ≤ H'.next ∧ ∀ id fz c, H.get id = some (.box fz c) → H'.get id = some (.box fz c)
theorem KeepB.trans {H H' H'' : Heap} (h : KeepB H H') (h' : KeepB H' H'') : KeepB H H'' := ⟨Nat.le_trans h.1 h'.1, fun id fz c hg => h'.2 id fz c (h.2 id fz c hg)⟩
theorem KeepB.hx {H : Heap} (L : List Blk) : KeepB H (hx H L) := ⟨by rw [hx_next]; omega, fun _ _ _ h => get_old h L⟩
/-- Numbers, finished or growing. -/
def FZN (K : Heap) (S : AV) (l : List Int) : Prop := S = encN l ∨ ∃ id, S = .sl id 0 l.length ∧ K.get id = some (.row false 1 (l.map intC))
theorem FZN.fz {K : Heap} {S : AV} {l : List Int} (h : FZN K S l) (n : Nat) : ∃ K', frz (n + 1) K S = some (encN l, K') ∧ KeepB K K' := by
  rcases h with rfl | ⟨id, rfl, h⟩
  · exact ⟨K, rfl, Nat.le_refl _, fun _ _ _ h => h⟩
  · refine ⟨_, fz_sl1 h (by simp) n, by simp, fun j fz c hj => ?_⟩
    rw [Heap.get_set_ne _ (fun e => by rw [e, h] at hj; cases hj), hj]
theorem FZN.one {K : Heap} {S : AV} {l : List Int} (h : FZN K S l) : S.one = true := by
  rcases h with rfl | ⟨id, rfl, h⟩ <;> rfl
theorem FZN.hx {K : Heap} {S : AV} {l : List Int} (h : FZN K S l) (L : List Blk) : FZN (hx K L) S l := by
  rcases h with rfl | ⟨id, rfl, h⟩
  · exact .inl rfl
  · exact .inr ⟨id, rfl, get_old h L⟩
theorem k22z {l : List NamedM} {ref deep depth no : Int} {li hi : Bool} {lk hk : Bytes} {its : List ItemM} {S : AV} {refs : List Int} {K : Heap} {R : AV} (h : FZN K S refs)
   (hc : ∀ H, callL ft (.fn (.func 22) [] []) [encL l, int ref, int deep, .agg (bndC li lk), .agg (bndC hi hk), .agg [encI its, encN refs, int depth, int no]] H = some (R, H)) :
    ∃ K', callL ft (.fn (.func 22) [] []) [encL l, int ref, int deep, .agg (bndC li lk), .agg (bndC hi hk), .agg [encI its, S, int depth, int no]] K = some (R, K') ∧ KeepB K K' := by
  obtain ⟨K', h1, h2⟩ := h.fz 14
  simp only [Nat.reduceAdd] at h1
  refine ⟨K', (callL_fz (bs := [encL l, int ref, int deep, .agg (bndC li lk), .agg (bndC hi hk), .agg [encI its, encN refs, int depth, int no]]) (H1 := K') rfl ?_ rfl).trans (hc K'), h2⟩
  have e : ∀ n, frz.frzL (n + 4) K (bndC li lk) = some (bndC li lk, K) := fun _ => rfl
  have e' : ∀ n, frz.frzL (n + 4) K (bndC hi hk) = some (bndC hi hk, K) := fun _ => rfl
  simp only [frzCells_eq, frzL_cons, frzL_nil, frz_L, frz_agg, frz_I, int, frz_int, e, e', h1, Option.bind_some, Option.map_some]

theorem goM_ok {v : PlaceM → WM → Int × WM} {p : PlaceM} {n : NodeM} {k : Nat} {ks : List Nat} {w : WM} (h : (v (kidM p n k) w).1 = 0) : goM v p n (k :: ks) w = goM v p n ks (v (kidM p n k) w).2 := by
  rw [goM, if_neg (by simpa using h)]
theorem goM_bad {v : PlaceM → WM → Int × WM} {p : PlaceM} {n : NodeM} {k : Nat} {ks : List Nat} {w : WM} (h : (v (kidM p n k) w).1 ≠ 0) : goM v p n (k :: ks) w = v (kidM p n k) w := by
  rw [goM, if_pos h]
def resG (r : Int × WM) : WM × Int := if r.1 = 0 then (r.2, 0) else (w0, r.1)
theorem l22b {l : List NamedM} (hl : okL l) {v : PlaceM → WM → Int × WM} {p : PlaceM} {n : NodeM} (hp : okP_ p) (hn : okN n) (hd : 1 ≤ p.deep ∧ p.deep ≤ 12)
   (hv : ∀ (k : Nat) (w : WM), k < n.kids.length → ∀ H, okW l w → callL ft (.fn (.func 22) [] []) [encL l, int (kidM p n k).ref, int (kidM p n k).deep, .agg (bndC (kidM p n k).li (kidM p n k).lk), .agg (bndC (kidM p n k).hi (kidM p n k).hk), .agg [encI w.items, encN w.refs, int w.depth, int 0]] H
      = some (.agg (wholeD (resG (v (kidM p n k) w)).1 (resG (v (kidM p n k) w)).2), H))
   (hok : ∀ p w, okW l w → okW l (v p w).2)
   (R : WM × Int) (c3 : List AV) {Q : AExit → Env → Heap → Prop}
   (hex : ∀ f' K sR, f' 11 = .ptr 2 0 0 → f' 12 = .ptr 3 0 0 → K.get 2 = some (.box false [encI R.1.items, sR, int R.1.depth, int R.2]) → FZN K sR R.1.refs → K.get 3 = some (.box false c3) → Q (.exit 2) (mkE 172 f') (hx K [])) :
   ∀ (j k : Nat) (w : WM) (no : Int) (sR : AV) (K : Heap) (f : Nat → AV), k + j = n.kids.length → R = (if no = 0 then resG (goM v p n (List.range' k j) w) else (w, no)) → okW l w →
    K.get 0 = some (.box false (bndC p.li p.lk)) → K.get 1 = some (.box false (bndC p.hi p.hk)) → K.get 2 = some (.box false [encI w.items, sR, int w.depth, int no]) → FZN K sR w.refs → K.get 3 = some (.box false c3) → K.get 4 = some (.box false (nodeC n)) →
    f 0 = encL l → f 2 = int p.deep → f 9 = .ptr 0 0 0 → f 10 = .ptr 1 0 0 → f 11 = .ptr 2 0 0 → f 12 = .ptr 3 0 0 → f 13 = .ptr 4 0 0 → f 17 = int k →
    AW ft (.loop c22L1) (mkE 172 f) (hx K []) Q := by
  intro j
  have hi := hn.k.n
  unfold MX at hi
  induction j with
  | zero =>
    intro k w no sR K f hd' hR ho g0 g1 g2 hz g3 g4 h0 h2 h9 h10 h11 h12 h13 h17
    have g : ((k : Int) < n.kids.length) = False := eq_false (by omega)
    have o4 := get_old g4
    rw [AW_loop]
    unfold c22L1
    simp only [↓vp, vq0, vq1, vq2, vq3, vr0, vr1, vr2, vr3, vr4, vr5, vr6, vr7, vr8, vr9, vr10, vr11, vr12, vr13, vr14, vr15, vr16, vr17, vr18, vr19, vr20, vr21, vr22, vr23, vr24, vr25, vr26, vr27, vr28, vr29, vr30, vr31, vr32, vr33, vr34, opS, fpS, okP, pack, nAl, allocA, shId, leaves, fillA, fillR, splice, Nat.reduceLT, Nat.reduceEqDiff, Nat.reduceLeDiff, Nat.reduceAdd, Nat.reduceSub, Nat.reduceMul, Int.reduceBEq, Int.reduceBNe, Int.reduceLT, Int.reduceLE, Int.reduceEq, reduceIte, reduceCtorEq, da, int, boolA, h13, h17, o4, g]
    have hR' : R = (w, no) := by
      rw [hR]
      split
      · rename_i h; rw [h]; rfl
      · rfl
    refine hex _ _ sR ?_ ?_ (by rw [hR']; exact g2) (by rw [hR']; exact hz) g3 <;> simp only [↓vp, vq0, vq1, vq2, vq3, vr0, vr1, vr2, vr3, vr4, vr5, vr6, vr7, vr8, vr9, vr10, vr11, vr12, vr13, vr14, vr15, vr16, vr17, vr18, vr19, vr20, vr21, vr22, vr23, vr24, vr25, vr26, vr27, vr28, vr29, vr30, vr31, vr32, vr33, vr34, opS, fpS, okP, pack, nAl, allocA, shId, leaves, fillA, fillR, splice, Nat.reduceLT, Nat.reduceEqDiff, Nat.reduceLeDiff, Nat.reduceAdd, Nat.reduceSub, Nat.reduceMul, Int.reduceBEq, Int.reduceBNe, Int.reduceLT, Int.reduceLE, Int.reduceEq, reduceIte, reduceCtorEq, da, int, boolA, h11, h12]
  | succ j ih =>
    intro k w no sR K f hd' hR ho g0 g1 g2 hz g3 g4 h0 h2 h9 h10 h11 h12 h13 h17
    have g : ((k : Int) < n.kids.length) = True := eq_true (by omega)
    have gk : k < n.kids.length := by omega
    have w1 := wrap_succ (show k < 9223372036854775807 by omega)
    have w2 : IntKind.i64.wrap (p.deep + 1) = p.deep + 1 := wrap_i64 (by omega)
    have c1 : ((((k + 1 : Nat) : Int) < n.kids.length)) = (k + 1 < n.kids.length) := propext (by omega)
    have o0 := get_old g0
    have o1 := get_old g1
    have o2 := get_old g2
    have o4 := get_old g4
    have hS1 := hz.one
    rw [AW_loop]
    unfold c22L1
    cases e1 : (no == 0) with
    | false =>
      have e1' : ¬ no = 0 := by simpa using e1
      rw [if_neg e1'] at hR
      simp only [int] at o2
      simp only [↓vp, vq0, vq1, vq2, vq3, vr0, vr1, vr2, vr3, vr4, vr5, vr6, vr7, vr8, vr9, vr10, vr11, vr12, vr13, vr14, vr15, vr16, vr17, vr18, vr19, vr20, vr21, vr22, vr23, vr24, vr25, vr26, vr27, vr28, vr29, vr30, vr31, vr32, vr33, vr34, opS, fpS, okP, pack, nAl, allocA, shId, leaves, fillA, fillR, splice, Nat.reduceLT, Nat.reduceEqDiff, Nat.reduceLeDiff, Nat.reduceAdd, Nat.reduceSub, Nat.reduceMul, Int.reduceBEq, Int.reduceBNe, Int.reduceLT, Int.reduceLE, Int.reduceEq, reduceIte, reduceCtorEq, da, int, boolA, h11, h13, h17, o2, o4, g, e1]
      refine hex _ _ sR ?_ ?_ (by rw [hR]; exact g2) (by rw [hR]; exact hz) g3 <;> simp only [↓vp, vq0, vq1, vq2, vq3, vr0, vr1, vr2, vr3, vr4, vr5, vr6, vr7, vr8, vr9, vr10, vr11, vr12, vr13, vr14, vr15, vr16, vr17, vr18, vr19, vr20, vr21, vr22, vr23, vr24, vr25, vr26, vr27, vr28, vr29, vr30, vr31, vr32, vr33, vr34, opS, fpS, okP, pack, nAl, allocA, shId, leaves, fillA, fillR, splice, Nat.reduceLT, Nat.reduceEqDiff, Nat.reduceLeDiff, Nat.reduceAdd, Nat.reduceSub, Nat.reduceMul, Int.reduceBEq, Int.reduceBNe, Int.reduceLT, Int.reduceLE, Int.reduceEq, reduceIte, reduceCtorEq, da, int, boolA, h11, h12]
    | true =>
      have e1' : no = 0 := by simpa using e1
      subst e1'
      rw [if_pos rfl, List.range'_succ] at hR
      have low : bndC (kidM p n k).li (kidM p n k).lk = if 0 < k then bndC true n.kids[k].key else bndC p.li p.lk := by
        simp only [kidM, List.getElem?_eq_getElem gk, Option.map_some, Option.getD_some]
        split <;> rfl
      have high : bndC (kidM p n k).hi (kidM p n k).hk = if h : k + 1 < n.kids.length then bndC true n.kids[k + 1].key else bndC p.hi p.hk := by
        by_cases h : k + 1 < n.kids.length
        · simp only [kidM, List.getElem?_eq_getElem h, Option.map_some, Option.getD_some, if_pos h, dif_pos h]
        · simp only [kidM, if_neg h, dif_neg h]
      have hc := hv k w gk
      have e2 : (kidM p n k).ref = n.kids[k].ref := by simp only [kidM, List.getElem?_eq_getElem gk, Option.map_some, Option.getD_some]
      have e3 : (kidM p n k).deep = p.deep + 1 := rfl
      rw [low, high, e2, e3] at hc
      -- behind the call
      have fin : ∀ (f : Nat → AV) (L : List Blk) (H1 : Heap), KeepB (hx K L) H1 → f 0 = encL l → f 2 = int p.deep → f 9 = .ptr 0 0 0 → f 10 = .ptr 1 0 0 → f 11 = .ptr 2 0 0 → f 12 = .ptr 3 0 0 → f 13 = .ptr 4 0 0 → f 17 = int (k + 1 : Nat) →
          AW ft (.loop c22L1) (mkE 172 f) (hx (H1.set 2 (.box false (wholeD (resG (v (kidM p n k) w)).1 (resG (v (kidM p n k) w)).2))) []) Q := fun f L H1 hK q0 q2 q9 q10 q11 q12 q13 q17 => by
        have l2 : 2 < H1.next := Heap.get_lt (hK.2 _ _ _ (get_old g2 L))
        have st : ∀ j fz c, j ≠ 2 → K.get j = some (.box fz c) → (H1.set 2 (.box false (wholeD (resG (v (kidM p n k) w)).1 (resG (v (kidM p n k) w)).2))).get j = some (.box fz c) := fun j fz c hj hg => by
          rw [Heap.get_set_ne _ hj]
          exact hK.2 _ _ _ (get_old hg L)
        refine ih (k + 1) (resG (v (kidM p n k) w)).1 (resG (v (kidM p n k) w)).2 (encN (resG (v (kidM p n k) w)).1.refs) _ f (by omega) ?_ ?_ (st 0 _ _ (by decide) g0) (st 1 _ _ (by decide) g1) (Heap.get_set_self _ l2) (.inl rfl) (st 3 _ _ (by decide) g3) (st 4 _ _ (by decide) g4) q0 q2 q9 q10 q11 q12 q13 q17
        · rw [hR]
          by_cases hz0 : (v (kidM p n k) w).1 = 0
          · rw [goM_ok hz0]
            have : resG (v (kidM p n k) w) = ((v (kidM p n k) w).2, 0) := by unfold resG; rw [if_pos hz0]
            rw [this]
            rfl
          · rw [goM_bad hz0]
            have : resG (v (kidM p n k) w) = (w0, (v (kidM p n k) w).1) := by unfold resG; rw [if_neg hz0]
            rw [this, if_neg hz0]
        · unfold resG
          split
          · exact hok _ _ ho
          · exact ⟨List.nodup_nil, (by intro r hr; cases hr), Nat.le_refl _⟩
      have wl : (wholeD (resG (v (kidM p n k) w)).1 (resG (v (kidM p n k) w)).2).length = 4 := rfl
      have wo : oneAll (wholeD (resG (v (kidM p n k) w)).1 (resG (v (kidM p n k) w)).2) = true := rfl
      simp only [int] at o2
      have wd : (wholeD (resG (v (kidM p n k) w)).1 (resG (v (kidM p n k) w)).2).drop 4 = [] := rfl
      by_cases hk0 : 0 < k
      · have g0' : ((0 : Int) < (k : Int)) = True := eq_true (by omega)
        rw [if_pos hk0] at hc
        by_cases hk1 : k + 1 < n.kids.length
        · rw [dif_pos hk1] at hc
          simp only [↓vp, vq0, vq1, vq2, vq3, vr0, vr1, vr2, vr3, vr4, vr5, vr6, vr7, vr8, vr9, vr10, vr11, vr12, vr13, vr14, vr15, vr16, vr17, vr18, vr19, vr20, vr21, vr22, vr23, vr24, vr25, vr26, vr27, vr28, vr29, vr30, vr31, vr32, vr33, vr34, opS, fpS, okP, pack, nAl, allocA, shId, leaves, fillA, fillR, splice, Nat.reduceLT, Nat.reduceEqDiff, Nat.reduceLeDiff, Nat.reduceAdd, Nat.reduceSub, Nat.reduceMul, Int.reduceBEq, Int.reduceBNe, Int.reduceLT, Int.reduceLE, Int.reduceEq, reduceIte, reduceCtorEq, da, int, boolA, h0, h2, h9, h10, h11, h12, h13, h17, o0, o1, o2, o4, g, g0', c1, hk1, w1, w2, b2, bl, bo, bd, hS1, atK gk, cK gk, atK hk1, cK hk1]
          refine KW_ex (k22z (hz.hx _) (fun H => hc H ho)) (fun H1 hK => ?_)
          have q2 := hK.2 _ _ _ (get_old g2 _)
          have oq2 := get_old q2
          have p2 := fun (L : List Blk) (b : Blk) => hx_set_old H1 L b 2 (Heap.get_lt q2)
          rw [← hx_nil H1]
          simp only [↓vp, vq0, vq1, vq2, vq3, vr0, vr1, vr2, vr3, vr4, vr5, vr6, vr7, vr8, vr9, vr10, vr11, vr12, vr13, vr14, vr15, vr16, vr17, vr18, vr19, vr20, vr21, vr22, vr23, vr24, vr25, vr26, vr27, vr28, vr29, vr30, vr31, vr32, vr33, vr34, opS, fpS, okP, pack, nAl, allocA, shId, leaves, fillA, fillR, splice, Nat.reduceLT, Nat.reduceEqDiff, Nat.reduceLeDiff, Nat.reduceAdd, Nat.reduceSub, Nat.reduceMul, Int.reduceBEq, Int.reduceBNe, Int.reduceLT, Int.reduceLE, Int.reduceEq, reduceIte, reduceCtorEq, da, int, boolA, h0, h2, h9, h10, h11, h12, h13, h17, g, w1, oq2, p2, wl, wo, wd]
          refine fin _ _ H1 hK ?_ ?_ ?_ ?_ ?_ ?_ ?_ ?_ <;> simp only [↓vp, vq0, vq1, vq2, vq3, vr0, vr1, vr2, vr3, vr4, vr5, vr6, vr7, vr8, vr9, vr10, vr11, vr12, vr13, vr14, vr15, vr16, vr17, vr18, vr19, vr20, vr21, vr22, vr23, vr24, vr25, vr26, vr27, vr28, vr29, vr30, vr31, vr32, vr33, vr34, opS, fpS, okP, pack, nAl, allocA, shId, leaves, fillA, fillR, splice, Nat.reduceLT, Nat.reduceEqDiff, Nat.reduceLeDiff, Nat.reduceAdd, Nat.reduceSub, Nat.reduceMul, Int.reduceBEq, Int.reduceBNe, Int.reduceLT, Int.reduceLE, Int.reduceEq, reduceIte, reduceCtorEq, da, int, boolA, h0, h2, h9, h10, h11, h12, h13]
        · rw [dif_neg hk1] at hc
          simp only [↓vp, vq0, vq1, vq2, vq3, vr0, vr1, vr2, vr3, vr4, vr5, vr6, vr7, vr8, vr9, vr10, vr11, vr12, vr13, vr14, vr15, vr16, vr17, vr18, vr19, vr20, vr21, vr22, vr23, vr24, vr25, vr26, vr27, vr28, vr29, vr30, vr31, vr32, vr33, vr34, opS, fpS, okP, pack, nAl, allocA, shId, leaves, fillA, fillR, splice, Nat.reduceLT, Nat.reduceEqDiff, Nat.reduceLeDiff, Nat.reduceAdd, Nat.reduceSub, Nat.reduceMul, Int.reduceBEq, Int.reduceBNe, Int.reduceLT, Int.reduceLE, Int.reduceEq, reduceIte, reduceCtorEq, da, int, boolA, h0, h2, h9, h10, h11, h12, h13, h17, o0, o1, o2, o4, g, g0', c1, hk1, w1, w2, b2, bl, bo, bd, hS1, atK gk, cK gk]
          refine KW_ex (k22z (hz.hx _) (fun H => hc H ho)) (fun H1 hK => ?_)
          have q2 := hK.2 _ _ _ (get_old g2 _)
          have oq2 := get_old q2
          have p2 := fun (L : List Blk) (b : Blk) => hx_set_old H1 L b 2 (Heap.get_lt q2)
          rw [← hx_nil H1]
          simp only [↓vp, vq0, vq1, vq2, vq3, vr0, vr1, vr2, vr3, vr4, vr5, vr6, vr7, vr8, vr9, vr10, vr11, vr12, vr13, vr14, vr15, vr16, vr17, vr18, vr19, vr20, vr21, vr22, vr23, vr24, vr25, vr26, vr27, vr28, vr29, vr30, vr31, vr32, vr33, vr34, opS, fpS, okP, pack, nAl, allocA, shId, leaves, fillA, fillR, splice, Nat.reduceLT, Nat.reduceEqDiff, Nat.reduceLeDiff, Nat.reduceAdd, Nat.reduceSub, Nat.reduceMul, Int.reduceBEq, Int.reduceBNe, Int.reduceLT, Int.reduceLE, Int.reduceEq, reduceIte, reduceCtorEq, da, int, boolA, h0, h2, h9, h10, h11, h12, h13, h17, g, w1, oq2, p2, wl, wo, wd]
          refine fin _ _ H1 hK ?_ ?_ ?_ ?_ ?_ ?_ ?_ ?_ <;> simp only [↓vp, vq0, vq1, vq2, vq3, vr0, vr1, vr2, vr3, vr4, vr5, vr6, vr7, vr8, vr9, vr10, vr11, vr12, vr13, vr14, vr15, vr16, vr17, vr18, vr19, vr20, vr21, vr22, vr23, vr24, vr25, vr26, vr27, vr28, vr29, vr30, vr31, vr32, vr33, vr34, opS, fpS, okP, pack, nAl, allocA, shId, leaves, fillA, fillR, splice, Nat.reduceLT, Nat.reduceEqDiff, Nat.reduceLeDiff, Nat.reduceAdd, Nat.reduceSub, Nat.reduceMul, Int.reduceBEq, Int.reduceBNe, Int.reduceLT, Int.reduceLE, Int.reduceEq, reduceIte, reduceCtorEq, da, int, boolA, h0, h2, h9, h10, h11, h12, h13]
      · have g0' : ((0 : Int) < (k : Int)) = False := eq_false (by omega)
        rw [if_neg hk0] at hc
        by_cases hk1 : k + 1 < n.kids.length
        · rw [dif_pos hk1] at hc
          simp only [↓vp, vq0, vq1, vq2, vq3, vr0, vr1, vr2, vr3, vr4, vr5, vr6, vr7, vr8, vr9, vr10, vr11, vr12, vr13, vr14, vr15, vr16, vr17, vr18, vr19, vr20, vr21, vr22, vr23, vr24, vr25, vr26, vr27, vr28, vr29, vr30, vr31, vr32, vr33, vr34, opS, fpS, okP, pack, nAl, allocA, shId, leaves, fillA, fillR, splice, Nat.reduceLT, Nat.reduceEqDiff, Nat.reduceLeDiff, Nat.reduceAdd, Nat.reduceSub, Nat.reduceMul, Int.reduceBEq, Int.reduceBNe, Int.reduceLT, Int.reduceLE, Int.reduceEq, reduceIte, reduceCtorEq, da, int, boolA, h0, h2, h9, h10, h11, h12, h13, h17, o0, o1, o2, o4, g, g0', c1, hk1, w1, w2, b2, bl, bo, bd, hS1, atK gk, cK gk, atK hk1, cK hk1]
          refine KW_ex (k22z (hz.hx _) (fun H => hc H ho)) (fun H1 hK => ?_)
          have q2 := hK.2 _ _ _ (get_old g2 _)
          have oq2 := get_old q2
          have p2 := fun (L : List Blk) (b : Blk) => hx_set_old H1 L b 2 (Heap.get_lt q2)
          rw [← hx_nil H1]
          simp only [↓vp, vq0, vq1, vq2, vq3, vr0, vr1, vr2, vr3, vr4, vr5, vr6, vr7, vr8, vr9, vr10, vr11, vr12, vr13, vr14, vr15, vr16, vr17, vr18, vr19, vr20, vr21, vr22, vr23, vr24, vr25, vr26, vr27, vr28, vr29, vr30, vr31, vr32, vr33, vr34, opS, fpS, okP, pack, nAl, allocA, shId, leaves, fillA, fillR, splice, Nat.reduceLT, Nat.reduceEqDiff, Nat.reduceLeDiff, Nat.reduceAdd, Nat.reduceSub, Nat.reduceMul, Int.reduceBEq, Int.reduceBNe, Int.reduceLT, Int.reduceLE, Int.reduceEq, reduceIte, reduceCtorEq, da, int, boolA, h0, h2, h9, h10, h11, h12, h13, h17, g, w1, oq2, p2, wl, wo, wd]
          refine fin _ _ H1 hK ?_ ?_ ?_ ?_ ?_ ?_ ?_ ?_ <;> simp only [↓vp, vq0, vq1, vq2, vq3, vr0, vr1, vr2, vr3, vr4, vr5, vr6, vr7, vr8, vr9, vr10, vr11, vr12, vr13, vr14, vr15, vr16, vr17, vr18, vr19, vr20, vr21, vr22, vr23, vr24, vr25, vr26, vr27, vr28, vr29, vr30, vr31, vr32, vr33, vr34, opS, fpS, okP, pack, nAl, allocA, shId, leaves, fillA, fillR, splice, Nat.reduceLT, Nat.reduceEqDiff, Nat.reduceLeDiff, Nat.reduceAdd, Nat.reduceSub, Nat.reduceMul, Int.reduceBEq, Int.reduceBNe, Int.reduceLT, Int.reduceLE, Int.reduceEq, reduceIte, reduceCtorEq, da, int, boolA, h0, h2, h9, h10, h11, h12, h13]
        · rw [dif_neg hk1] at hc
          simp only [↓vp, vq0, vq1, vq2, vq3, vr0, vr1, vr2, vr3, vr4, vr5, vr6, vr7, vr8, vr9, vr10, vr11, vr12, vr13, vr14, vr15, vr16, vr17, vr18, vr19, vr20, vr21, vr22, vr23, vr24, vr25, vr26, vr27, vr28, vr29, vr30, vr31, vr32, vr33, vr34, opS, fpS, okP, pack, nAl, allocA, shId, leaves, fillA, fillR, splice, Nat.reduceLT, Nat.reduceEqDiff, Nat.reduceLeDiff, Nat.reduceAdd, Nat.reduceSub, Nat.reduceMul, Int.reduceBEq, Int.reduceBNe, Int.reduceLT, Int.reduceLE, Int.reduceEq, reduceIte, reduceCtorEq, da, int, boolA, h0, h2, h9, h10, h11, h12, h13, h17, o0, o1, o2, o4, g, g0', c1, hk1, w1, w2, b2, bl, bo, bd, hS1, atK gk, cK gk]
          refine KW_ex (k22z (hz.hx _) (fun H => hc H ho)) (fun H1 hK => ?_)
          have q2 := hK.2 _ _ _ (get_old g2 _)
          have oq2 := get_old q2
          have p2 := fun (L : List Blk) (b : Blk) => hx_set_old H1 L b 2 (Heap.get_lt q2)
          rw [← hx_nil H1]
          simp only [↓vp, vq0, vq1, vq2, vq3, vr0, vr1, vr2, vr3, vr4, vr5, vr6, vr7, vr8, vr9, vr10, vr11, vr12, vr13, vr14, vr15, vr16, vr17, vr18, vr19, vr20, vr21, vr22, vr23, vr24, vr25, vr26, vr27, vr28, vr29, vr30, vr31, vr32, vr33, vr34, opS, fpS, okP, pack, nAl, allocA, shId, leaves, fillA, fillR, splice, Nat.reduceLT, Nat.reduceEqDiff, Nat.reduceLeDiff, Nat.reduceAdd, Nat.reduceSub, Nat.reduceMul, Int.reduceBEq, Int.reduceBNe, Int.reduceLT, Int.reduceLE, Int.reduceEq, reduceIte, reduceCtorEq, da, int, boolA, h0, h2, h9, h10, h11, h12, h13, h17, g, w1, oq2, p2, wl, wo, wd]
          refine fin _ _ H1 hK ?_ ?_ ?_ ?_ ?_ ?_ ?_ ?_ <;> simp only [↓vp, vq0, vq1, vq2, vq3, vr0, vr1, vr2, vr3, vr4, vr5, vr6, vr7, vr8, vr9, vr10, vr11, vr12, vr13, vr14, vr15, vr16, vr17, vr18, vr19, vr20, vr21, vr22, vr23, vr24, vr25, vr26, vr27, vr28, vr29, vr30, vr31, vr32, vr33, vr34, opS, fpS, okP, pack, nAl, allocA, shId, leaves, fillA, fillR, splice, Nat.reduceLT, Nat.reduceEqDiff, Nat.reduceLeDiff, Nat.reduceAdd, Nat.reduceSub, Nat.reduceMul, Int.reduceBEq, Int.reduceBNe, Int.reduceLT, Int.reduceLE, Int.reduceEq, reduceIte, reduceCtorEq, da, int, boolA, h0, h2, h9, h10, h11, h12, h13]
end Go.VI

/- VI, part TC: the document's All. -/
set_option linter.unusedVariables false
set_option linter.unusedSimpArgs false
set_option maxRecDepth 100000
namespace Go.VI
attribute [local congr] AW_congr OW_congr DW_congr NW_congr VW_congr GW_congr PW_congr KW_congr ite_congr' GV_congr CV_congr

theorem rN (H : Heap) (l : List Int) : rowsOf H (encN l) = some (l.map intC) := rfl
theorem rI (H : Heap) (l : List ItemM) : rowsOf H (encI l) = some (l.map itemC) := rfl
theorem aN (l : List Int) : allSz 1 (l.map intC) = true := by simp [allSz, intC]
theorem aI (l : List ItemM) : allSz 4 (l.map itemC) = true := by simp [allSz, len_itemC]
set_option maxHeartbeats 4000000 in
theorem s22 (l : List NamedM) (hl : okL l) (ht : tinyL l) (hlen : l.length ≤ 1000) : ∀ (d : Nat) (p : PlaceM) (w : WM) (H : Heap), p.deep + d = 13 → 1 ≤ p.deep → okP_ p → okW l w →
    callL ft (.fn (.func 22) [] []) [encL l, int p.ref, int p.deep, .agg (bndC p.li p.lk), .agg (bndC p.hi p.hk), .agg (wholeD w 0)] H = some (.agg (wholeD (resG (visitM l d p w)).1 (resG (visitM l d p w)).2), H) := by
  intro d
  induction d with
  | zero =>
    intro p w H hd h1 hp ho
    refine call_p (as' := [encL l, int p.ref, int p.deep, .agg (bndC p.li p.lk), .agg (bndC p.hi p.hk), .agg (wholeD w 0)]) rfl rfl (by simp) ?_
    have g : (12 : Int) < p.deep := by omega
    have wl : (wholeD w 0).length = 4 := rfl
    have wo : oneAll (wholeD w 0) = true := rfl
    unfold c22 r22
    simp only [↓vp, vq0, vq1, vq2, vq3, vr0, vr1, vr2, vr3, vr4, vr5, vr6, vr7, vr8, vr9, vr10, vr11, vr12, vr13, vr14, vr15, vr16, vr17, vr18, vr19, vr20, vr21, vr22, vr23, vr24, vr25, vr26, vr27, vr28, vr29, vr30, vr31, vr32, vr33, vr34, opS, fpS, okP, pack, nAl, allocA, shId, leaves, fillA, fillR, splice, Nat.reduceLT, Nat.reduceEqDiff, Nat.reduceLeDiff, Nat.reduceAdd, Nat.reduceSub, Nat.reduceMul, Int.reduceBEq, Int.reduceBNe, Int.reduceLT, Int.reduceLE, Int.reduceEq, reduceIte, reduceCtorEq, da, int, boolA, RetP_go, resT, resC, resN, retV1, retV2, retV3, retV0, frzFZ, takeM, Option.some.injEq, b2, bl, bo, wl, wo, g]
    rfl
  | succ d ih =>
    intro p w H hd h1 hp ho
    refine call_p (as' := [encL l, int p.ref, int p.deep, .agg (bndC p.li p.lk), .agg (bndC p.hi p.hk), .agg (wholeD w 0)]) rfl rfl (by simp) ?_
    have g : ¬ (12 : Int) < p.deep := by omega
    have wl : (wholeD w 0).length = 4 := rfl
    have wo : oneAll (wholeD w 0) = true := rfl
    have o1 := ok_node hl p.ref
    have t1 := tiny_node ht p.ref
    have hv : visitM l (d + 1) p w = if (nodeW l p w).2.1 ≠ 0 then ((nodeW l p w).2.1, (nodeW l p w).2.2) else goM (visitM l d) p (nodeW l p w).1 (List.range (nodeW l p w).1.kids.length) (nodeW l p w).2.2 := rfl
    have hnw := okW_node ht (p := p) ho
    unfold nodeW at hv hnw
    rw [if_neg g] at hv hnw
    have x46 := fun K L Q => k46 (ref := p.ref) hl (K := K) (L := L) (Q := Q)
    simp only [int] at x46
    have weq := wrong_eq w p (nodeM l p.ref).1 h1
    generalize nodeM l p.ref = nn at *
    obtain ⟨n, er⟩ := nn
    simp only at o1 t1 hv weq hnw
    have ol := hp.l
    have oh := hp.h
    unfold c22 r22
    cases ee : (er != 0) with
    | true =>
      have ee' : er ≠ 0 := by simpa using ee
      rw [if_pos ee'] at hv
      have hres : resG (visitM l (d + 1) p w) = (w0, er) := by
        rw [hv]
        unfold resG
        simp [ee']
      rw [hres]
      simp only [↓vp, vq0, vq1, vq2, vq3, vr0, vr1, vr2, vr3, vr4, vr5, vr6, vr7, vr8, vr9, vr10, vr11, vr12, vr13, vr14, vr15, vr16, vr17, vr18, vr19, vr20, vr21, vr22, vr23, vr24, vr25, vr26, vr27, vr28, vr29, vr30, vr31, vr32, vr33, vr34, opS, fpS, okP, pack, nAl, allocA, shId, leaves, fillA, fillR, splice, Nat.reduceLT, Nat.reduceEqDiff, Nat.reduceLeDiff, Nat.reduceAdd, Nat.reduceSub, Nat.reduceMul, Int.reduceBEq, Int.reduceBNe, Int.reduceLT, Int.reduceLE, Int.reduceEq, reduceIte, reduceCtorEq, da, int, boolA, RetP_go, resT, resC, resN, retV1, retV2, retV3, retV0, frzFZ, takeM, Option.some.injEq, b2, bl, bo, wl, wo, g, x46, ee]
      rfl
    | false =>
      have ee' : ¬ er ≠ 0 := by simpa using ee
      rw [if_neg ee'] at hv hnw
      simp only [↓vp, vq0, vq1, vq2, vq3, vr0, vr1, vr2, vr3, vr4, vr5, vr6, vr7, vr8, vr9, vr10, vr11, vr12, vr13, vr14, vr15, vr16, vr17, vr18, vr19, vr20, vr21, vr22, vr23, vr24, vr25, vr26, vr27, vr28, vr29, vr30, vr31, vr32, vr33, vr34, opS, fpS, okP, pack, nAl, allocA, shId, leaves, fillA, fillR, splice, Nat.reduceLT, Nat.reduceEqDiff, Nat.reduceLeDiff, Nat.reduceAdd, Nat.reduceSub, Nat.reduceMul, Int.reduceBEq, Int.reduceBNe, Int.reduceLT, Int.reduceLE, Int.reduceEq, reduceIte, reduceCtorEq, da, int, boolA, b2, bl, bo, wl, wo, g, x46, ee, k57, o1, ol, oh]
      have hW : wrongM w p n = true → resG (visitM l (d + 1) p w) = (w0, 131) := fun h => by
        rw [weq] at h
        rw [if_pos h] at hv
        rw [hv]
        rfl
      have hG : wrongM w p n = false → visitM l (d + 1) p w = goM (visitM l d) p n (List.range n.kids.length) ⟨if n.leaf then w.items ++ n.items else w.items, w.refs ++ [p.ref], if n.leaf then p.deep else w.depth⟩ ∧ okW l ⟨if n.leaf then w.items ++ n.items else w.items, w.refs ++ [p.ref], if n.leaf then p.deep else w.depth⟩ := fun h => by
        rw [weq] at h
        have h2 : ¬ ((w.refs.contains p.ref || !formM w.depth p n) = true) := by rw [h]; simp
        rw [if_neg h2] at hv hnw
        exact ⟨by rw [hv]; rfl, hnw⟩
      have hL : n.leaf = true → decide ((0 : Int) < n.kids.length) = false → wrongM w p n = false → resG (visitM l (d + 1) p w) = (⟨w.items ++ n.items, w.refs ++ [p.ref], p.deep⟩, 0) := fun h1 h2 h3 => by
        have hk0 : n.kids.length = 0 := by
          have := of_decide_eq_false h2
          omega
        rw [(hG h3).1, hk0, h1]
        rfl
      have hN : n.leaf = false → wrongM w p n = false → visitM l (d + 1) p w = goM (visitM l d) p n (List.range n.kids.length) ⟨w.items, w.refs ++ [p.ref], w.depth⟩ ∧ okW l ⟨w.items, w.refs ++ [p.ref], w.depth⟩ := fun h1 h3 => by
        have h := hG h3
        rw [h1] at h
        exact h
      have tk1 : (w.items.map itemC ++ n.items.map itemC).take (w.items.length + n.items.length) = w.items.map itemC ++ n.items.map itemC := List.take_of_length_le (by simp)
      have tk2 : ∀ x : List AV, (w.refs.map intC ++ [x]).take (w.refs.length + 1) = w.refs.map intC ++ [x] := fun x => List.take_of_length_le (by simp)
      have hle := ho.le
      have hlen' := ho.len
      have hb1 : (w.refs.length * 8 ≤ 140737488355328) = True := eq_true (by omega)
      have hb2 : ((w.refs.length + 1) * 8 ≤ 140737488355328) = True := eq_true (by omega)
      have hb3 : (w.items.length * 64 ≤ 140737488355328) = True := eq_true (by omega)
      have hb4 : ((w.items.length + n.items.length) * 64 ≤ 140737488355328) = True := eq_true (by omega)
      have w0' : (wholeD w 0).take 1 = [encI w.items] := rfl
      have w1' : ((wholeD w 0).drop 1).take 1 = [encN w.refs] := rfl
      have w2' : ((wholeD w 0).drop 2).take 1 = [int w.depth] := rfl
      have w2d : (wholeD w 0).drop 2 = [int w.depth, int 0] := rfl
      have w1s : ∀ (x : AV), (wholeD w 0).take 1 ++ x :: (wholeD w 0).drop 2 = [encI w.items, x, int w.depth, int 0] := fun _ => rfl
      refine l22a l w p.ref p.deep (!rkM p.hi p.hk p.li p.lk true (keys2 n)) (by omega) rfl (fun f' q0 q1 q2 q9 q10 q11 q12 q13 q15 => ?_) w.refs.length 0 (!rkM p.hi p.hk p.li p.lk true (keys2 n)) _ (by simp) rfl ?_ ?_ ?_ ?_ ?_ ?_ ?_ ?_ ?_ ?_
      · unfold c22R3
        cases eb : (!rkM p.hi p.hk p.li p.lk true (keys2 n) || w.refs.contains p.ref) with
        | true =>
          cases el : n.leaf with
          | true =>
            cases e2 : decide ((0 : Int) < n.kids.length) with
            | true =>
              cases e3 : ((n.items.length : Int) == 0) with
              | true =>
                cases e4 : decide ((1 : Int) < p.deep) with
                | true =>
                  rw [hW (by unfold wrongM; simp only [eb, el, e2, e3, e4]; simp)]
                  simp only [↓vp, vq0, vq1, vq2, vq3, vr0, vr1, vr2, vr3, vr4, vr5, vr6, vr7, vr8, vr9, vr10, vr11, vr12, vr13, vr14, vr15, vr16, vr17, vr18, vr19, vr20, vr21, vr22, vr23, vr24, vr25, vr26, vr27, vr28, vr29, vr30, vr31, vr32, vr33, vr34, opS, fpS, okP, pack, nAl, allocA, shId, leaves, fillA, fillR, splice, Nat.reduceLT, Nat.reduceEqDiff, Nat.reduceLeDiff, Nat.reduceAdd, Nat.reduceSub, Nat.reduceMul, Int.reduceBEq, Int.reduceBNe, Int.reduceLT, Int.reduceLE, Int.reduceEq, reduceIte, reduceCtorEq, da, int, boolA, RetP_go, resT, resC, resN, retV1, retV2, retV3, retV0, frzFZ, takeM, Option.some.injEq, q0, q1, q2, q9, q10, q11, q12, q13, q15, wl, wo, w0', w1', w2', eb, el, e2, e3, e4]
                  rfl
                | false =>
                  cases e5 : decide ((0 : Int) < w.depth) with
                  | true =>
                    cases e6 : (w.depth != p.deep) with
                    | true =>
                      rw [hW (by unfold wrongM; simp only [eb, el, e2, e3, e4, e5, e6]; simp)]
                      simp only [↓vp, vq0, vq1, vq2, vq3, vr0, vr1, vr2, vr3, vr4, vr5, vr6, vr7, vr8, vr9, vr10, vr11, vr12, vr13, vr14, vr15, vr16, vr17, vr18, vr19, vr20, vr21, vr22, vr23, vr24, vr25, vr26, vr27, vr28, vr29, vr30, vr31, vr32, vr33, vr34, opS, fpS, okP, pack, nAl, allocA, shId, leaves, fillA, fillR, splice, Nat.reduceLT, Nat.reduceEqDiff, Nat.reduceLeDiff, Nat.reduceAdd, Nat.reduceSub, Nat.reduceMul, Int.reduceBEq, Int.reduceBNe, Int.reduceLT, Int.reduceLE, Int.reduceEq, reduceIte, reduceCtorEq, da, int, boolA, RetP_go, resT, resC, resN, retV1, retV2, retV3, retV0, frzFZ, takeM, Option.some.injEq, q0, q1, q2, q9, q10, q11, q12, q13, q15, wl, wo, w0', w1', w2', eb, el, e2, e3, e4, e5, e6]
                      rfl
                    | false =>
                      rw [hW (by unfold wrongM; simp only [eb, el, e2, e3, e4, e5, e6]; simp)]
                      simp only [↓vp, vq0, vq1, vq2, vq3, vr0, vr1, vr2, vr3, vr4, vr5, vr6, vr7, vr8, vr9, vr10, vr11, vr12, vr13, vr14, vr15, vr16, vr17, vr18, vr19, vr20, vr21, vr22, vr23, vr24, vr25, vr26, vr27, vr28, vr29, vr30, vr31, vr32, vr33, vr34, opS, fpS, okP, pack, nAl, allocA, shId, leaves, fillA, fillR, splice, Nat.reduceLT, Nat.reduceEqDiff, Nat.reduceLeDiff, Nat.reduceAdd, Nat.reduceSub, Nat.reduceMul, Int.reduceBEq, Int.reduceBNe, Int.reduceLT, Int.reduceLE, Int.reduceEq, reduceIte, reduceCtorEq, da, int, boolA, RetP_go, resT, resC, resN, retV1, retV2, retV3, retV0, frzFZ, takeM, Option.some.injEq, q0, q1, q2, q9, q10, q11, q12, q13, q15, wl, wo, w0', w1', w2', eb, el, e2, e3, e4, e5, e6]
                      rfl
                  | false =>
                    rw [hW (by unfold wrongM; simp only [eb, el, e2, e3, e4, e5]; simp)]
                    simp only [↓vp, vq0, vq1, vq2, vq3, vr0, vr1, vr2, vr3, vr4, vr5, vr6, vr7, vr8, vr9, vr10, vr11, vr12, vr13, vr14, vr15, vr16, vr17, vr18, vr19, vr20, vr21, vr22, vr23, vr24, vr25, vr26, vr27, vr28, vr29, vr30, vr31, vr32, vr33, vr34, opS, fpS, okP, pack, nAl, allocA, shId, leaves, fillA, fillR, splice, Nat.reduceLT, Nat.reduceEqDiff, Nat.reduceLeDiff, Nat.reduceAdd, Nat.reduceSub, Nat.reduceMul, Int.reduceBEq, Int.reduceBNe, Int.reduceLT, Int.reduceLE, Int.reduceEq, reduceIte, reduceCtorEq, da, int, boolA, RetP_go, resT, resC, resN, retV1, retV2, retV3, retV0, frzFZ, takeM, Option.some.injEq, q0, q1, q2, q9, q10, q11, q12, q13, q15, wl, wo, w0', w1', w2', eb, el, e2, e3, e4, e5]
                    rfl
              | false =>
                cases e5 : decide ((0 : Int) < w.depth) with
                | true =>
                  cases e6 : (w.depth != p.deep) with
                  | true =>
                    rw [hW (by unfold wrongM; simp only [eb, el, e2, e3, e5, e6]; simp)]
                    simp only [↓vp, vq0, vq1, vq2, vq3, vr0, vr1, vr2, vr3, vr4, vr5, vr6, vr7, vr8, vr9, vr10, vr11, vr12, vr13, vr14, vr15, vr16, vr17, vr18, vr19, vr20, vr21, vr22, vr23, vr24, vr25, vr26, vr27, vr28, vr29, vr30, vr31, vr32, vr33, vr34, opS, fpS, okP, pack, nAl, allocA, shId, leaves, fillA, fillR, splice, Nat.reduceLT, Nat.reduceEqDiff, Nat.reduceLeDiff, Nat.reduceAdd, Nat.reduceSub, Nat.reduceMul, Int.reduceBEq, Int.reduceBNe, Int.reduceLT, Int.reduceLE, Int.reduceEq, reduceIte, reduceCtorEq, da, int, boolA, RetP_go, resT, resC, resN, retV1, retV2, retV3, retV0, frzFZ, takeM, Option.some.injEq, q0, q1, q2, q9, q10, q11, q12, q13, q15, wl, wo, w0', w1', w2', eb, el, e2, e3, e5, e6]
                    rfl
                  | false =>
                    rw [hW (by unfold wrongM; simp only [eb, el, e2, e3, e5, e6]; simp)]
                    simp only [↓vp, vq0, vq1, vq2, vq3, vr0, vr1, vr2, vr3, vr4, vr5, vr6, vr7, vr8, vr9, vr10, vr11, vr12, vr13, vr14, vr15, vr16, vr17, vr18, vr19, vr20, vr21, vr22, vr23, vr24, vr25, vr26, vr27, vr28, vr29, vr30, vr31, vr32, vr33, vr34, opS, fpS, okP, pack, nAl, allocA, shId, leaves, fillA, fillR, splice, Nat.reduceLT, Nat.reduceEqDiff, Nat.reduceLeDiff, Nat.reduceAdd, Nat.reduceSub, Nat.reduceMul, Int.reduceBEq, Int.reduceBNe, Int.reduceLT, Int.reduceLE, Int.reduceEq, reduceIte, reduceCtorEq, da, int, boolA, RetP_go, resT, resC, resN, retV1, retV2, retV3, retV0, frzFZ, takeM, Option.some.injEq, q0, q1, q2, q9, q10, q11, q12, q13, q15, wl, wo, w0', w1', w2', eb, el, e2, e3, e5, e6]
                    rfl
                | false =>
                  rw [hW (by unfold wrongM; simp only [eb, el, e2, e3, e5]; simp)]
                  simp only [↓vp, vq0, vq1, vq2, vq3, vr0, vr1, vr2, vr3, vr4, vr5, vr6, vr7, vr8, vr9, vr10, vr11, vr12, vr13, vr14, vr15, vr16, vr17, vr18, vr19, vr20, vr21, vr22, vr23, vr24, vr25, vr26, vr27, vr28, vr29, vr30, vr31, vr32, vr33, vr34, opS, fpS, okP, pack, nAl, allocA, shId, leaves, fillA, fillR, splice, Nat.reduceLT, Nat.reduceEqDiff, Nat.reduceLeDiff, Nat.reduceAdd, Nat.reduceSub, Nat.reduceMul, Int.reduceBEq, Int.reduceBNe, Int.reduceLT, Int.reduceLE, Int.reduceEq, reduceIte, reduceCtorEq, da, int, boolA, RetP_go, resT, resC, resN, retV1, retV2, retV3, retV0, frzFZ, takeM, Option.some.injEq, q0, q1, q2, q9, q10, q11, q12, q13, q15, wl, wo, w0', w1', w2', eb, el, e2, e3, e5]
                  rfl
            | false =>
              cases e3 : ((n.items.length : Int) == 0) with
              | true =>
                cases e4 : decide ((1 : Int) < p.deep) with
                | true =>
                  rw [hW (by unfold wrongM; simp only [eb, el, e2, e3, e4]; simp)]
                  simp only [↓vp, vq0, vq1, vq2, vq3, vr0, vr1, vr2, vr3, vr4, vr5, vr6, vr7, vr8, vr9, vr10, vr11, vr12, vr13, vr14, vr15, vr16, vr17, vr18, vr19, vr20, vr21, vr22, vr23, vr24, vr25, vr26, vr27, vr28, vr29, vr30, vr31, vr32, vr33, vr34, opS, fpS, okP, pack, nAl, allocA, shId, leaves, fillA, fillR, splice, Nat.reduceLT, Nat.reduceEqDiff, Nat.reduceLeDiff, Nat.reduceAdd, Nat.reduceSub, Nat.reduceMul, Int.reduceBEq, Int.reduceBNe, Int.reduceLT, Int.reduceLE, Int.reduceEq, reduceIte, reduceCtorEq, da, int, boolA, RetP_go, resT, resC, resN, retV1, retV2, retV3, retV0, frzFZ, takeM, Option.some.injEq, q0, q1, q2, q9, q10, q11, q12, q13, q15, wl, wo, w0', w1', w2', eb, el, e2, e3, e4]
                  rfl
                | false =>
                  cases e5 : decide ((0 : Int) < w.depth) with
                  | true =>
                    cases e6 : (w.depth != p.deep) with
                    | true =>
                      rw [hW (by unfold wrongM; simp only [eb, el, e2, e3, e4, e5, e6]; simp)]
                      simp only [↓vp, vq0, vq1, vq2, vq3, vr0, vr1, vr2, vr3, vr4, vr5, vr6, vr7, vr8, vr9, vr10, vr11, vr12, vr13, vr14, vr15, vr16, vr17, vr18, vr19, vr20, vr21, vr22, vr23, vr24, vr25, vr26, vr27, vr28, vr29, vr30, vr31, vr32, vr33, vr34, opS, fpS, okP, pack, nAl, allocA, shId, leaves, fillA, fillR, splice, Nat.reduceLT, Nat.reduceEqDiff, Nat.reduceLeDiff, Nat.reduceAdd, Nat.reduceSub, Nat.reduceMul, Int.reduceBEq, Int.reduceBNe, Int.reduceLT, Int.reduceLE, Int.reduceEq, reduceIte, reduceCtorEq, da, int, boolA, RetP_go, resT, resC, resN, retV1, retV2, retV3, retV0, frzFZ, takeM, Option.some.injEq, q0, q1, q2, q9, q10, q11, q12, q13, q15, wl, wo, w0', w1', w2', eb, el, e2, e3, e4, e5, e6]
                      rfl
                    | false =>
                      rw [hW (by unfold wrongM; simp only [eb, el, e2, e3, e4, e5, e6]; simp)]
                      simp only [↓vp, vq0, vq1, vq2, vq3, vr0, vr1, vr2, vr3, vr4, vr5, vr6, vr7, vr8, vr9, vr10, vr11, vr12, vr13, vr14, vr15, vr16, vr17, vr18, vr19, vr20, vr21, vr22, vr23, vr24, vr25, vr26, vr27, vr28, vr29, vr30, vr31, vr32, vr33, vr34, opS, fpS, okP, pack, nAl, allocA, shId, leaves, fillA, fillR, splice, Nat.reduceLT, Nat.reduceEqDiff, Nat.reduceLeDiff, Nat.reduceAdd, Nat.reduceSub, Nat.reduceMul, Int.reduceBEq, Int.reduceBNe, Int.reduceLT, Int.reduceLE, Int.reduceEq, reduceIte, reduceCtorEq, da, int, boolA, RetP_go, resT, resC, resN, retV1, retV2, retV3, retV0, frzFZ, takeM, Option.some.injEq, q0, q1, q2, q9, q10, q11, q12, q13, q15, wl, wo, w0', w1', w2', eb, el, e2, e3, e4, e5, e6]
                      rfl
                  | false =>
                    rw [hW (by unfold wrongM; simp only [eb, el, e2, e3, e4, e5]; simp)]
                    simp only [↓vp, vq0, vq1, vq2, vq3, vr0, vr1, vr2, vr3, vr4, vr5, vr6, vr7, vr8, vr9, vr10, vr11, vr12, vr13, vr14, vr15, vr16, vr17, vr18, vr19, vr20, vr21, vr22, vr23, vr24, vr25, vr26, vr27, vr28, vr29, vr30, vr31, vr32, vr33, vr34, opS, fpS, okP, pack, nAl, allocA, shId, leaves, fillA, fillR, splice, Nat.reduceLT, Nat.reduceEqDiff, Nat.reduceLeDiff, Nat.reduceAdd, Nat.reduceSub, Nat.reduceMul, Int.reduceBEq, Int.reduceBNe, Int.reduceLT, Int.reduceLE, Int.reduceEq, reduceIte, reduceCtorEq, da, int, boolA, RetP_go, resT, resC, resN, retV1, retV2, retV3, retV0, frzFZ, takeM, Option.some.injEq, q0, q1, q2, q9, q10, q11, q12, q13, q15, wl, wo, w0', w1', w2', eb, el, e2, e3, e4, e5]
                    rfl
              | false =>
                cases e5 : decide ((0 : Int) < w.depth) with
                | true =>
                  cases e6 : (w.depth != p.deep) with
                  | true =>
                    rw [hW (by unfold wrongM; simp only [eb, el, e2, e3, e5, e6]; simp)]
                    simp only [↓vp, vq0, vq1, vq2, vq3, vr0, vr1, vr2, vr3, vr4, vr5, vr6, vr7, vr8, vr9, vr10, vr11, vr12, vr13, vr14, vr15, vr16, vr17, vr18, vr19, vr20, vr21, vr22, vr23, vr24, vr25, vr26, vr27, vr28, vr29, vr30, vr31, vr32, vr33, vr34, opS, fpS, okP, pack, nAl, allocA, shId, leaves, fillA, fillR, splice, Nat.reduceLT, Nat.reduceEqDiff, Nat.reduceLeDiff, Nat.reduceAdd, Nat.reduceSub, Nat.reduceMul, Int.reduceBEq, Int.reduceBNe, Int.reduceLT, Int.reduceLE, Int.reduceEq, reduceIte, reduceCtorEq, da, int, boolA, RetP_go, resT, resC, resN, retV1, retV2, retV3, retV0, frzFZ, takeM, Option.some.injEq, q0, q1, q2, q9, q10, q11, q12, q13, q15, wl, wo, w0', w1', w2', eb, el, e2, e3, e5, e6]
                    rfl
                  | false =>
                    rw [hW (by unfold wrongM; simp only [eb, el, e2, e3, e5, e6]; simp)]
                    simp only [↓vp, vq0, vq1, vq2, vq3, vr0, vr1, vr2, vr3, vr4, vr5, vr6, vr7, vr8, vr9, vr10, vr11, vr12, vr13, vr14, vr15, vr16, vr17, vr18, vr19, vr20, vr21, vr22, vr23, vr24, vr25, vr26, vr27, vr28, vr29, vr30, vr31, vr32, vr33, vr34, opS, fpS, okP, pack, nAl, allocA, shId, leaves, fillA, fillR, splice, Nat.reduceLT, Nat.reduceEqDiff, Nat.reduceLeDiff, Nat.reduceAdd, Nat.reduceSub, Nat.reduceMul, Int.reduceBEq, Int.reduceBNe, Int.reduceLT, Int.reduceLE, Int.reduceEq, reduceIte, reduceCtorEq, da, int, boolA, RetP_go, resT, resC, resN, retV1, retV2, retV3, retV0, frzFZ, takeM, Option.some.injEq, q0, q1, q2, q9, q10, q11, q12, q13, q15, wl, wo, w0', w1', w2', eb, el, e2, e3, e5, e6]
                    rfl
                | false =>
                  rw [hW (by unfold wrongM; simp only [eb, el, e2, e3, e5]; simp)]
                  simp only [↓vp, vq0, vq1, vq2, vq3, vr0, vr1, vr2, vr3, vr4, vr5, vr6, vr7, vr8, vr9, vr10, vr11, vr12, vr13, vr14, vr15, vr16, vr17, vr18, vr19, vr20, vr21, vr22, vr23, vr24, vr25, vr26, vr27, vr28, vr29, vr30, vr31, vr32, vr33, vr34, opS, fpS, okP, pack, nAl, allocA, shId, leaves, fillA, fillR, splice, Nat.reduceLT, Nat.reduceEqDiff, Nat.reduceLeDiff, Nat.reduceAdd, Nat.reduceSub, Nat.reduceMul, Int.reduceBEq, Int.reduceBNe, Int.reduceLT, Int.reduceLE, Int.reduceEq, reduceIte, reduceCtorEq, da, int, boolA, RetP_go, resT, resC, resN, retV1, retV2, retV3, retV0, frzFZ, takeM, Option.some.injEq, q0, q1, q2, q9, q10, q11, q12, q13, q15, wl, wo, w0', w1', w2', eb, el, e2, e3, e5]
                  rfl
          | false =>
            cases e2 : decide ((n.kids.length : Int) < 2) with
            | true =>
              rw [hW (by unfold wrongM; simp only [eb, el, e2]; simp)]
              simp only [↓vp, vq0, vq1, vq2, vq3, vr0, vr1, vr2, vr3, vr4, vr5, vr6, vr7, vr8, vr9, vr10, vr11, vr12, vr13, vr14, vr15, vr16, vr17, vr18, vr19, vr20, vr21, vr22, vr23, vr24, vr25, vr26, vr27, vr28, vr29, vr30, vr31, vr32, vr33, vr34, opS, fpS, okP, pack, nAl, allocA, shId, leaves, fillA, fillR, splice, Nat.reduceLT, Nat.reduceEqDiff, Nat.reduceLeDiff, Nat.reduceAdd, Nat.reduceSub, Nat.reduceMul, Int.reduceBEq, Int.reduceBNe, Int.reduceLT, Int.reduceLE, Int.reduceEq, reduceIte, reduceCtorEq, da, int, boolA, RetP_go, resT, resC, resN, retV1, retV2, retV3, retV0, frzFZ, takeM, Option.some.injEq, q0, q1, q2, q9, q10, q11, q12, q13, q15, wl, wo, w0', w1', w2', eb, el, e2]
              rfl
            | false =>
              cases e3 : decide ((0 : Int) < n.items.length) with
              | true =>
                rw [hW (by unfold wrongM; simp only [eb, el, e2, e3]; simp)]
                simp only [↓vp, vq0, vq1, vq2, vq3, vr0, vr1, vr2, vr3, vr4, vr5, vr6, vr7, vr8, vr9, vr10, vr11, vr12, vr13, vr14, vr15, vr16, vr17, vr18, vr19, vr20, vr21, vr22, vr23, vr24, vr25, vr26, vr27, vr28, vr29, vr30, vr31, vr32, vr33, vr34, opS, fpS, okP, pack, nAl, allocA, shId, leaves, fillA, fillR, splice, Nat.reduceLT, Nat.reduceEqDiff, Nat.reduceLeDiff, Nat.reduceAdd, Nat.reduceSub, Nat.reduceMul, Int.reduceBEq, Int.reduceBNe, Int.reduceLT, Int.reduceLE, Int.reduceEq, reduceIte, reduceCtorEq, da, int, boolA, RetP_go, resT, resC, resN, retV1, retV2, retV3, retV0, frzFZ, takeM, Option.some.injEq, q0, q1, q2, q9, q10, q11, q12, q13, q15, wl, wo, w0', w1', w2', eb, el, e2, e3]
                rfl
              | false =>
                rw [hW (by unfold wrongM; simp only [eb, el, e2, e3]; simp)]
                simp only [↓vp, vq0, vq1, vq2, vq3, vr0, vr1, vr2, vr3, vr4, vr5, vr6, vr7, vr8, vr9, vr10, vr11, vr12, vr13, vr14, vr15, vr16, vr17, vr18, vr19, vr20, vr21, vr22, vr23, vr24, vr25, vr26, vr27, vr28, vr29, vr30, vr31, vr32, vr33, vr34, opS, fpS, okP, pack, nAl, allocA, shId, leaves, fillA, fillR, splice, Nat.reduceLT, Nat.reduceEqDiff, Nat.reduceLeDiff, Nat.reduceAdd, Nat.reduceSub, Nat.reduceMul, Int.reduceBEq, Int.reduceBNe, Int.reduceLT, Int.reduceLE, Int.reduceEq, reduceIte, reduceCtorEq, da, int, boolA, RetP_go, resT, resC, resN, retV1, retV2, retV3, retV0, frzFZ, takeM, Option.some.injEq, q0, q1, q2, q9, q10, q11, q12, q13, q15, wl, wo, w0', w1', w2', eb, el, e2, e3]
                rfl
        | false =>
          cases el : n.leaf with
          | true =>
            cases e2 : decide ((0 : Int) < n.kids.length) with
            | true =>
              cases e3 : ((n.items.length : Int) == 0) with
              | true =>
                cases e4 : decide ((1 : Int) < p.deep) with
                | true =>
                  rw [hW (by unfold wrongM; simp only [eb, el, e2, e3, e4]; simp)]
                  simp only [↓vp, vq0, vq1, vq2, vq3, vr0, vr1, vr2, vr3, vr4, vr5, vr6, vr7, vr8, vr9, vr10, vr11, vr12, vr13, vr14, vr15, vr16, vr17, vr18, vr19, vr20, vr21, vr22, vr23, vr24, vr25, vr26, vr27, vr28, vr29, vr30, vr31, vr32, vr33, vr34, opS, fpS, okP, pack, nAl, allocA, shId, leaves, fillA, fillR, splice, Nat.reduceLT, Nat.reduceEqDiff, Nat.reduceLeDiff, Nat.reduceAdd, Nat.reduceSub, Nat.reduceMul, Int.reduceBEq, Int.reduceBNe, Int.reduceLT, Int.reduceLE, Int.reduceEq, reduceIte, reduceCtorEq, da, int, boolA, RetP_go, resT, resC, resN, retV1, retV2, retV3, retV0, frzFZ, takeM, Option.some.injEq, q0, q1, q2, q9, q10, q11, q12, q13, q15, wl, wo, w0', w1', w2', eb, el, e2, e3, e4]
                  rfl
                | false =>
                  cases e5 : decide ((0 : Int) < w.depth) with
                  | true =>
                    cases e6 : (w.depth != p.deep) with
                    | true =>
                      rw [hW (by unfold wrongM; simp only [eb, el, e2, e3, e4, e5, e6]; simp)]
                      simp only [↓vp, vq0, vq1, vq2, vq3, vr0, vr1, vr2, vr3, vr4, vr5, vr6, vr7, vr8, vr9, vr10, vr11, vr12, vr13, vr14, vr15, vr16, vr17, vr18, vr19, vr20, vr21, vr22, vr23, vr24, vr25, vr26, vr27, vr28, vr29, vr30, vr31, vr32, vr33, vr34, opS, fpS, okP, pack, nAl, allocA, shId, leaves, fillA, fillR, splice, Nat.reduceLT, Nat.reduceEqDiff, Nat.reduceLeDiff, Nat.reduceAdd, Nat.reduceSub, Nat.reduceMul, Int.reduceBEq, Int.reduceBNe, Int.reduceLT, Int.reduceLE, Int.reduceEq, reduceIte, reduceCtorEq, da, int, boolA, RetP_go, resT, resC, resN, retV1, retV2, retV3, retV0, frzFZ, takeM, Option.some.injEq, q0, q1, q2, q9, q10, q11, q12, q13, q15, wl, wo, w0', w1', w2', eb, el, e2, e3, e4, e5, e6]
                      rfl
                    | false =>
                      rw [hW (by unfold wrongM; simp only [eb, el, e2, e3, e4, e5, e6]; simp)]
                      simp only [↓vp, vq0, vq1, vq2, vq3, vr0, vr1, vr2, vr3, vr4, vr5, vr6, vr7, vr8, vr9, vr10, vr11, vr12, vr13, vr14, vr15, vr16, vr17, vr18, vr19, vr20, vr21, vr22, vr23, vr24, vr25, vr26, vr27, vr28, vr29, vr30, vr31, vr32, vr33, vr34, opS, fpS, okP, pack, nAl, allocA, shId, leaves, fillA, fillR, splice, Nat.reduceLT, Nat.reduceEqDiff, Nat.reduceLeDiff, Nat.reduceAdd, Nat.reduceSub, Nat.reduceMul, Int.reduceBEq, Int.reduceBNe, Int.reduceLT, Int.reduceLE, Int.reduceEq, reduceIte, reduceCtorEq, da, int, boolA, RetP_go, resT, resC, resN, retV1, retV2, retV3, retV0, frzFZ, takeM, Option.some.injEq, q0, q1, q2, q9, q10, q11, q12, q13, q15, wl, wo, w0', w1', w2', eb, el, e2, e3, e4, e5, e6]
                      rfl
                  | false =>
                    rw [hW (by unfold wrongM; simp only [eb, el, e2, e3, e4, e5]; simp)]
                    simp only [↓vp, vq0, vq1, vq2, vq3, vr0, vr1, vr2, vr3, vr4, vr5, vr6, vr7, vr8, vr9, vr10, vr11, vr12, vr13, vr14, vr15, vr16, vr17, vr18, vr19, vr20, vr21, vr22, vr23, vr24, vr25, vr26, vr27, vr28, vr29, vr30, vr31, vr32, vr33, vr34, opS, fpS, okP, pack, nAl, allocA, shId, leaves, fillA, fillR, splice, Nat.reduceLT, Nat.reduceEqDiff, Nat.reduceLeDiff, Nat.reduceAdd, Nat.reduceSub, Nat.reduceMul, Int.reduceBEq, Int.reduceBNe, Int.reduceLT, Int.reduceLE, Int.reduceEq, reduceIte, reduceCtorEq, da, int, boolA, RetP_go, resT, resC, resN, retV1, retV2, retV3, retV0, frzFZ, takeM, Option.some.injEq, q0, q1, q2, q9, q10, q11, q12, q13, q15, wl, wo, w0', w1', w2', eb, el, e2, e3, e4, e5]
                    rfl
              | false =>
                cases e5 : decide ((0 : Int) < w.depth) with
                | true =>
                  cases e6 : (w.depth != p.deep) with
                  | true =>
                    rw [hW (by unfold wrongM; simp only [eb, el, e2, e3, e5, e6]; simp)]
                    simp only [↓vp, vq0, vq1, vq2, vq3, vr0, vr1, vr2, vr3, vr4, vr5, vr6, vr7, vr8, vr9, vr10, vr11, vr12, vr13, vr14, vr15, vr16, vr17, vr18, vr19, vr20, vr21, vr22, vr23, vr24, vr25, vr26, vr27, vr28, vr29, vr30, vr31, vr32, vr33, vr34, opS, fpS, okP, pack, nAl, allocA, shId, leaves, fillA, fillR, splice, Nat.reduceLT, Nat.reduceEqDiff, Nat.reduceLeDiff, Nat.reduceAdd, Nat.reduceSub, Nat.reduceMul, Int.reduceBEq, Int.reduceBNe, Int.reduceLT, Int.reduceLE, Int.reduceEq, reduceIte, reduceCtorEq, da, int, boolA, RetP_go, resT, resC, resN, retV1, retV2, retV3, retV0, frzFZ, takeM, Option.some.injEq, q0, q1, q2, q9, q10, q11, q12, q13, q15, wl, wo, w0', w1', w2', eb, el, e2, e3, e5, e6]
                    rfl
                  | false =>
                    rw [hW (by unfold wrongM; simp only [eb, el, e2, e3, e5, e6]; simp)]
                    simp only [↓vp, vq0, vq1, vq2, vq3, vr0, vr1, vr2, vr3, vr4, vr5, vr6, vr7, vr8, vr9, vr10, vr11, vr12, vr13, vr14, vr15, vr16, vr17, vr18, vr19, vr20, vr21, vr22, vr23, vr24, vr25, vr26, vr27, vr28, vr29, vr30, vr31, vr32, vr33, vr34, opS, fpS, okP, pack, nAl, allocA, shId, leaves, fillA, fillR, splice, Nat.reduceLT, Nat.reduceEqDiff, Nat.reduceLeDiff, Nat.reduceAdd, Nat.reduceSub, Nat.reduceMul, Int.reduceBEq, Int.reduceBNe, Int.reduceLT, Int.reduceLE, Int.reduceEq, reduceIte, reduceCtorEq, da, int, boolA, RetP_go, resT, resC, resN, retV1, retV2, retV3, retV0, frzFZ, takeM, Option.some.injEq, q0, q1, q2, q9, q10, q11, q12, q13, q15, wl, wo, w0', w1', w2', eb, el, e2, e3, e5, e6]
                    rfl
                | false =>
                  rw [hW (by unfold wrongM; simp only [eb, el, e2, e3, e5]; simp)]
                  simp only [↓vp, vq0, vq1, vq2, vq3, vr0, vr1, vr2, vr3, vr4, vr5, vr6, vr7, vr8, vr9, vr10, vr11, vr12, vr13, vr14, vr15, vr16, vr17, vr18, vr19, vr20, vr21, vr22, vr23, vr24, vr25, vr26, vr27, vr28, vr29, vr30, vr31, vr32, vr33, vr34, opS, fpS, okP, pack, nAl, allocA, shId, leaves, fillA, fillR, splice, Nat.reduceLT, Nat.reduceEqDiff, Nat.reduceLeDiff, Nat.reduceAdd, Nat.reduceSub, Nat.reduceMul, Int.reduceBEq, Int.reduceBNe, Int.reduceLT, Int.reduceLE, Int.reduceEq, reduceIte, reduceCtorEq, da, int, boolA, RetP_go, resT, resC, resN, retV1, retV2, retV3, retV0, frzFZ, takeM, Option.some.injEq, q0, q1, q2, q9, q10, q11, q12, q13, q15, wl, wo, w0', w1', w2', eb, el, e2, e3, e5]
                  rfl
            | false =>
              cases e3 : ((n.items.length : Int) == 0) with
              | true =>
                cases e4 : decide ((1 : Int) < p.deep) with
                | true =>
                  rw [hW (by unfold wrongM; simp only [eb, el, e2, e3, e4]; simp)]
                  simp only [↓vp, vq0, vq1, vq2, vq3, vr0, vr1, vr2, vr3, vr4, vr5, vr6, vr7, vr8, vr9, vr10, vr11, vr12, vr13, vr14, vr15, vr16, vr17, vr18, vr19, vr20, vr21, vr22, vr23, vr24, vr25, vr26, vr27, vr28, vr29, vr30, vr31, vr32, vr33, vr34, opS, fpS, okP, pack, nAl, allocA, shId, leaves, fillA, fillR, splice, Nat.reduceLT, Nat.reduceEqDiff, Nat.reduceLeDiff, Nat.reduceAdd, Nat.reduceSub, Nat.reduceMul, Int.reduceBEq, Int.reduceBNe, Int.reduceLT, Int.reduceLE, Int.reduceEq, reduceIte, reduceCtorEq, da, int, boolA, RetP_go, resT, resC, resN, retV1, retV2, retV3, retV0, frzFZ, takeM, Option.some.injEq, q0, q1, q2, q9, q10, q11, q12, q13, q15, wl, wo, w0', w1', w2', eb, el, e2, e3, e4]
                  rfl
                | false =>
                  cases e5 : decide ((0 : Int) < w.depth) with
                  | true =>
                    cases e6 : (w.depth != p.deep) with
                    | true =>
                      rw [hW (by unfold wrongM; simp only [eb, el, e2, e3, e4, e5, e6]; simp)]
                      simp only [↓vp, vq0, vq1, vq2, vq3, vr0, vr1, vr2, vr3, vr4, vr5, vr6, vr7, vr8, vr9, vr10, vr11, vr12, vr13, vr14, vr15, vr16, vr17, vr18, vr19, vr20, vr21, vr22, vr23, vr24, vr25, vr26, vr27, vr28, vr29, vr30, vr31, vr32, vr33, vr34, opS, fpS, okP, pack, nAl, allocA, shId, leaves, fillA, fillR, splice, Nat.reduceLT, Nat.reduceEqDiff, Nat.reduceLeDiff, Nat.reduceAdd, Nat.reduceSub, Nat.reduceMul, Int.reduceBEq, Int.reduceBNe, Int.reduceLT, Int.reduceLE, Int.reduceEq, reduceIte, reduceCtorEq, da, int, boolA, RetP_go, resT, resC, resN, retV1, retV2, retV3, retV0, frzFZ, takeM, Option.some.injEq, q0, q1, q2, q9, q10, q11, q12, q13, q15, wl, wo, w0', w1', w2', eb, el, e2, e3, e4, e5, e6]
                      rfl
                    | false =>
                      rw [hL el e2 (by unfold wrongM; simp only [eb, el, e2, e3, e4, e5, e6]; simp)]
                      simp only [↓vp, vq0, vq1, vq2, vq3, vr0, vr1, vr2, vr3, vr4, vr5, vr6, vr7, vr8, vr9, vr10, vr11, vr12, vr13, vr14, vr15, vr16, vr17, vr18, vr19, vr20, vr21, vr22, vr23, vr24, vr25, vr26, vr27, vr28, vr29, vr30, vr31, vr32, vr33, vr34, opS, fpS, okP, pack, nAl, allocA, shId, leaves, fillA, fillR, splice, Nat.reduceLT, Nat.reduceEqDiff, Nat.reduceLeDiff, Nat.reduceAdd, Nat.reduceSub, Nat.reduceMul, Int.reduceBEq, Int.reduceBNe, Int.reduceLT, Int.reduceLE, Int.reduceEq, reduceIte, reduceCtorEq, da, int, boolA, RetP_go, resT, resC, resN, retV1, retV2, retV3, retV0, frzFZ, takeM, Option.some.injEq, q0, q1, q2, q9, q10, q11, q12, q13, q15, wl, wo, w0', w1', w2', w2d, rN, rI, aN, aI, hb1, hb2, hb3, hb4, eb, el, e2, e3, e4, e5, e6, List.length_append, tk1, tk2]
                      refine ⟨rfl, ?_⟩
                      simp only [wholeD, encI, encN, int, List.map_append]
                      rfl
                  | false =>
                    rw [hL el e2 (by unfold wrongM; simp only [eb, el, e2, e3, e4, e5]; simp)]
                    simp only [↓vp, vq0, vq1, vq2, vq3, vr0, vr1, vr2, vr3, vr4, vr5, vr6, vr7, vr8, vr9, vr10, vr11, vr12, vr13, vr14, vr15, vr16, vr17, vr18, vr19, vr20, vr21, vr22, vr23, vr24, vr25, vr26, vr27, vr28, vr29, vr30, vr31, vr32, vr33, vr34, opS, fpS, okP, pack, nAl, allocA, shId, leaves, fillA, fillR, splice, Nat.reduceLT, Nat.reduceEqDiff, Nat.reduceLeDiff, Nat.reduceAdd, Nat.reduceSub, Nat.reduceMul, Int.reduceBEq, Int.reduceBNe, Int.reduceLT, Int.reduceLE, Int.reduceEq, reduceIte, reduceCtorEq, da, int, boolA, RetP_go, resT, resC, resN, retV1, retV2, retV3, retV0, frzFZ, takeM, Option.some.injEq, q0, q1, q2, q9, q10, q11, q12, q13, q15, wl, wo, w0', w1', w2', w2d, rN, rI, aN, aI, hb1, hb2, hb3, hb4, eb, el, e2, e3, e4, e5, List.length_append, tk1, tk2]
                    refine ⟨rfl, ?_⟩
                    simp only [wholeD, encI, encN, int, List.map_append]
                    rfl
              | false =>
                cases e5 : decide ((0 : Int) < w.depth) with
                | true =>
                  cases e6 : (w.depth != p.deep) with
                  | true =>
                    rw [hW (by unfold wrongM; simp only [eb, el, e2, e3, e5, e6]; simp)]
                    simp only [↓vp, vq0, vq1, vq2, vq3, vr0, vr1, vr2, vr3, vr4, vr5, vr6, vr7, vr8, vr9, vr10, vr11, vr12, vr13, vr14, vr15, vr16, vr17, vr18, vr19, vr20, vr21, vr22, vr23, vr24, vr25, vr26, vr27, vr28, vr29, vr30, vr31, vr32, vr33, vr34, opS, fpS, okP, pack, nAl, allocA, shId, leaves, fillA, fillR, splice, Nat.reduceLT, Nat.reduceEqDiff, Nat.reduceLeDiff, Nat.reduceAdd, Nat.reduceSub, Nat.reduceMul, Int.reduceBEq, Int.reduceBNe, Int.reduceLT, Int.reduceLE, Int.reduceEq, reduceIte, reduceCtorEq, da, int, boolA, RetP_go, resT, resC, resN, retV1, retV2, retV3, retV0, frzFZ, takeM, Option.some.injEq, q0, q1, q2, q9, q10, q11, q12, q13, q15, wl, wo, w0', w1', w2', eb, el, e2, e3, e5, e6]
                    rfl
                  | false =>
                    rw [hL el e2 (by unfold wrongM; simp only [eb, el, e2, e3, e5, e6]; simp)]
                    simp only [↓vp, vq0, vq1, vq2, vq3, vr0, vr1, vr2, vr3, vr4, vr5, vr6, vr7, vr8, vr9, vr10, vr11, vr12, vr13, vr14, vr15, vr16, vr17, vr18, vr19, vr20, vr21, vr22, vr23, vr24, vr25, vr26, vr27, vr28, vr29, vr30, vr31, vr32, vr33, vr34, opS, fpS, okP, pack, nAl, allocA, shId, leaves, fillA, fillR, splice, Nat.reduceLT, Nat.reduceEqDiff, Nat.reduceLeDiff, Nat.reduceAdd, Nat.reduceSub, Nat.reduceMul, Int.reduceBEq, Int.reduceBNe, Int.reduceLT, Int.reduceLE, Int.reduceEq, reduceIte, reduceCtorEq, da, int, boolA, RetP_go, resT, resC, resN, retV1, retV2, retV3, retV0, frzFZ, takeM, Option.some.injEq, q0, q1, q2, q9, q10, q11, q12, q13, q15, wl, wo, w0', w1', w2', w2d, rN, rI, aN, aI, hb1, hb2, hb3, hb4, eb, el, e2, e3, e5, e6, List.length_append, tk1, tk2]
                    refine ⟨rfl, ?_⟩
                    simp only [wholeD, encI, encN, int, List.map_append]
                    rfl
                | false =>
                  rw [hL el e2 (by unfold wrongM; simp only [eb, el, e2, e3, e5]; simp)]
                  simp only [↓vp, vq0, vq1, vq2, vq3, vr0, vr1, vr2, vr3, vr4, vr5, vr6, vr7, vr8, vr9, vr10, vr11, vr12, vr13, vr14, vr15, vr16, vr17, vr18, vr19, vr20, vr21, vr22, vr23, vr24, vr25, vr26, vr27, vr28, vr29, vr30, vr31, vr32, vr33, vr34, opS, fpS, okP, pack, nAl, allocA, shId, leaves, fillA, fillR, splice, Nat.reduceLT, Nat.reduceEqDiff, Nat.reduceLeDiff, Nat.reduceAdd, Nat.reduceSub, Nat.reduceMul, Int.reduceBEq, Int.reduceBNe, Int.reduceLT, Int.reduceLE, Int.reduceEq, reduceIte, reduceCtorEq, da, int, boolA, RetP_go, resT, resC, resN, retV1, retV2, retV3, retV0, frzFZ, takeM, Option.some.injEq, q0, q1, q2, q9, q10, q11, q12, q13, q15, wl, wo, w0', w1', w2', w2d, rN, rI, aN, aI, hb1, hb2, hb3, hb4, eb, el, e2, e3, e5, List.length_append, tk1, tk2]
                  refine ⟨rfl, ?_⟩
                  simp only [wholeD, encI, encN, int, List.map_append]
                  rfl
          | false =>
            cases e2 : decide ((n.kids.length : Int) < 2) with
            | true =>
              rw [hW (by unfold wrongM; simp only [eb, el, e2]; simp)]
              simp only [↓vp, vq0, vq1, vq2, vq3, vr0, vr1, vr2, vr3, vr4, vr5, vr6, vr7, vr8, vr9, vr10, vr11, vr12, vr13, vr14, vr15, vr16, vr17, vr18, vr19, vr20, vr21, vr22, vr23, vr24, vr25, vr26, vr27, vr28, vr29, vr30, vr31, vr32, vr33, vr34, opS, fpS, okP, pack, nAl, allocA, shId, leaves, fillA, fillR, splice, Nat.reduceLT, Nat.reduceEqDiff, Nat.reduceLeDiff, Nat.reduceAdd, Nat.reduceSub, Nat.reduceMul, Int.reduceBEq, Int.reduceBNe, Int.reduceLT, Int.reduceLE, Int.reduceEq, reduceIte, reduceCtorEq, da, int, boolA, RetP_go, resT, resC, resN, retV1, retV2, retV3, retV0, frzFZ, takeM, Option.some.injEq, q0, q1, q2, q9, q10, q11, q12, q13, q15, wl, wo, w0', w1', w2', eb, el, e2]
              rfl
            | false =>
              cases e3 : decide ((0 : Int) < n.items.length) with
              | true =>
                rw [hW (by unfold wrongM; simp only [eb, el, e2, e3]; simp)]
                simp only [↓vp, vq0, vq1, vq2, vq3, vr0, vr1, vr2, vr3, vr4, vr5, vr6, vr7, vr8, vr9, vr10, vr11, vr12, vr13, vr14, vr15, vr16, vr17, vr18, vr19, vr20, vr21, vr22, vr23, vr24, vr25, vr26, vr27, vr28, vr29, vr30, vr31, vr32, vr33, vr34, opS, fpS, okP, pack, nAl, allocA, shId, leaves, fillA, fillR, splice, Nat.reduceLT, Nat.reduceEqDiff, Nat.reduceLeDiff, Nat.reduceAdd, Nat.reduceSub, Nat.reduceMul, Int.reduceBEq, Int.reduceBNe, Int.reduceLT, Int.reduceLE, Int.reduceEq, reduceIte, reduceCtorEq, da, int, boolA, RetP_go, resT, resC, resN, retV1, retV2, retV3, retV0, frzFZ, takeM, Option.some.injEq, q0, q1, q2, q9, q10, q11, q12, q13, q15, wl, wo, w0', w1', w2', eb, el, e2, e3]
                rfl
              | false =>
                obtain ⟨hG1, hG2⟩ := hN el (by unfold wrongM; simp only [eb, el, e2, e3]; simp)
                rw [hG1]
                simp only [↓vp, vq0, vq1, vq2, vq3, vr0, vr1, vr2, vr3, vr4, vr5, vr6, vr7, vr8, vr9, vr10, vr11, vr12, vr13, vr14, vr15, vr16, vr17, vr18, vr19, vr20, vr21, vr22, vr23, vr24, vr25, vr26, vr27, vr28, vr29, vr30, vr31, vr32, vr33, vr34, opS, fpS, okP, pack, nAl, allocA, shId, leaves, fillA, fillR, splice, Nat.reduceLT, Nat.reduceEqDiff, Nat.reduceLeDiff, Nat.reduceAdd, Nat.reduceSub, Nat.reduceMul, Int.reduceBEq, Int.reduceBNe, Int.reduceLT, Int.reduceLE, Int.reduceEq, reduceIte, reduceCtorEq, da, int, boolA, q0, q1, q2, q9, q10, q11, q12, q13, q15, wl, wo, w0', w1', w2', w2d, rN, rI, aN, aI, hb1, hb2, hb3, hb4, eb, el, e2, e3]
                rw [← hx_nil (hx _ _)]
                refine l22b hl (v := visitM l d) hp o1 ⟨h1, by omega⟩ (fun k w hk H ho => ?_) (okW_visit ht d) (resG (goM (visitM l d) p n (List.range n.kids.length) ⟨w.items, w.refs ++ [p.ref], w.depth⟩)) _ (fun f' K sR q11 q12 k2 hz k3 => ?_) n.kids.length 0 ⟨w.items, w.refs ++ [p.ref], w.depth⟩ 0 (.sl 8 0 (w.refs.length + 1)) _ _ (by simp) ?_ hG2 rfl rfl rfl (.inr ⟨8, by simp, ?_⟩) rfl rfl ?_ ?_ ?_ ?_ ?_ ?_ ?_ ?_
                · exact ih (kidM p n k) w H (by show p.deep + 1 + d = 13; omega) (by show 1 ≤ p.deep + 1; omega) (okP_kid hp o1 k) ho
                · unfold c22R2
                  have o2 := get_old k2
                  have o3 := get_old k3
                  have l3 := Heap.get_lt k3
                  have p3 := fun (L : List Blk) (b : Blk) => hx_set_old K L b 3 l3
                  have g3 : ∀ (b : Blk) (L : List Blk), (hx (K.set 3 b) L).get 3 = some b := fun b L => get_old (Heap.get_set_self b l3) L
                  have hS1 := hz.one
                  have hz' : ∀ b, FZN (hx (K.set 3 b) []) sR (resG (goM (visitM l d) p n (List.range n.kids.length) ⟨w.items, w.refs ++ [p.ref], w.depth⟩)).1.refs := fun b => by
                    rcases hz with h | ⟨id, h, h'⟩
                    · exact .inl h
                    · refine .inr ⟨id, h, get_old ?_ []⟩
                      rw [Heap.get_set_ne _ (fun e => by rw [e, k3] at h'; cases h'), h']
                  simp only [int] at o2
                  obtain ⟨K', hK1, hK2⟩ := (hz' (.box false [encI (resG (goM (visitM l d) p n (List.range n.kids.length) ⟨w.items, w.refs ++ [p.ref], w.depth⟩)).1.items, sR, int (resG (goM (visitM l d) p n (List.range n.kids.length) ⟨w.items, w.refs ++ [p.ref], w.depth⟩)).1.depth, int (resG (goM (visitM l d) p n (List.range n.kids.length) ⟨w.items, w.refs ++ [p.ref], w.depth⟩)).2])).fz 20
                  simp only [int, Nat.reduceAdd] at hK1
                  simp only [↓vp, vq0, vq1, vq2, vq3, vr0, vr1, vr2, vr3, vr4, vr5, vr6, vr7, vr8, vr9, vr10, vr11, vr12, vr13, vr14, vr15, vr16, vr17, vr18, vr19, vr20, vr21, vr22, vr23, vr24, vr25, vr26, vr27, vr28, vr29, vr30, vr31, vr32, vr33, vr34, opS, fpS, okP, pack, nAl, allocA, shId, leaves, fillA, fillR, splice, Nat.reduceLT, Nat.reduceEqDiff, Nat.reduceLeDiff, Nat.reduceAdd, Nat.reduceSub, Nat.reduceMul, Int.reduceBEq, Int.reduceBNe, Int.reduceLT, Int.reduceLE, Int.reduceEq, reduceIte, reduceCtorEq, da, int, boolA, RetP_go, resT, resC, resN, retV1, retV2, retV3, retV0, frzFZ, takeM, Option.some.injEq, q11, q12, o2, o3, p3, g3, hS1, hK1]
                  skip
                  rfl
                · rw [if_pos rfl, List.range_eq_range']
                · show some (Blk.row false 1 (List.take w.refs.length (List.map intC w.refs) ++ [intC p.ref])) = _
                  rw [List.map_append, List.take_of_length_le (by simp)]
                  rfl
                all_goals first | rfl | (simp only [↓vp, vq0, vq1, vq2, vq3, vr0, vr1, vr2, vr3, vr4, vr5, vr6, vr7, vr8, vr9, vr10, vr11, vr12, vr13, vr14, vr15, vr16, vr17, vr18, vr19, vr20, vr21, vr22, vr23, vr24, vr25, vr26, vr27, vr28, vr29, vr30, vr31, vr32, vr33, vr34, opS, fpS, okP, pack, nAl, allocA, shId, leaves, fillA, fillR, splice, Nat.reduceLT, Nat.reduceEqDiff, Nat.reduceLeDiff, Nat.reduceAdd, Nat.reduceSub, Nat.reduceMul, Int.reduceBEq, Int.reduceBNe, Int.reduceLT, Int.reduceLE, Int.reduceEq, reduceIte, reduceCtorEq, da, int, boolA, q0, q1, q2, q9, q10, q11, q12, q13]; done)
      all_goals first | rfl | (simp only [↓vp, vq0, vq1, vq2, vq3, vr0, vr1, vr2, vr3, vr4, vr5, vr6, vr7, vr8, vr9, vr10, vr11, vr12, vr13, vr14, vr15, vr16, vr17, vr18, vr19, vr20, vr21, vr22, vr23, vr24, vr25, vr26, vr27, vr28, vr29, vr30, vr31, vr32, vr33, vr34, opS, fpS, okP, pack, nAl, allocA, shId, leaves, fillA, fillR, splice, Nat.reduceLT, Nat.reduceEqDiff, Nat.reduceLeDiff, Nat.reduceAdd, Nat.reduceSub, Nat.reduceMul, Int.reduceBEq, Int.reduceBNe, Int.reduceLT, Int.reduceLE, Int.reduceEq, reduceIte, reduceCtorEq, da, int, boolA]; done)
end Go.VI

/- VI, part TD: law TreeAll, walked. -/
set_option linter.unusedVariables false
set_option linter.unusedSimpArgs false
set_option maxRecDepth 100000
namespace Go.VI
attribute [local congr] AW_congr OW_congr DW_congr NW_congr VW_congr GW_congr PW_congr KW_congr ite_congr' GV_congr CV_congr

theorem all_res (l : List NamedM) (root : Int) : allM l root = resG (visitM l 12 (root0 root) w0) := by
  unfold allM resG
  by_cases h : (visitM l 12 (root0 root) w0).1 = 0 <;> simp [h]
theorem k22r {l : List NamedM} (hl : okL l) (ht : tinyL l) (hlen : l.length ≤ 1000) {root : Int} {K : Heap} {L : List Blk} {Q : AV → Heap → Prop} :
    KW ft (.fn (.func 22) [] []) [encL l, int root, int 1, .agg [boolA false, .sc (.slice none 0 0)], .agg [boolA false, .sc (.slice none 0 0)], .agg [.sc (.slice none 0 0), .sc (.slice none 0 0), int 0, int 0]] (hx K L) Q ↔
      Q (.agg (wholeD (allM l root).1 (allM l root).2)) (hx K L) := by
  rw [all_res]
  exact KW_of ((callL_frz (bs := [encL l, int root, int 1, .agg (bndC false []), .agg (bndC false []), .agg (wholeD w0 0)]) rfl rfl).trans
    (s22 l hl ht hlen 12 (root0 root) w0 _ rfl (Int.le_refl _) ⟨ok_nil, ok_nil⟩ ⟨List.nodup_nil, (by intro r hr; cases hr), Nat.le_refl _⟩))
theorem its_node {l : List NamedM} (hl : okL l) {p : PlaceM} {w : WM} (h : ∀ x ∈ w.items, okIt x) : ∀ x ∈ (nodeW l p w).2.2.items, okIt x := by
  unfold nodeW
  split
  · exact h
  · split
    · exact h
    · split
      · exact h
      · intro x hx
        simp only at hx
        split at hx
        · rcases List.mem_append.1 hx with hx | hx
          · exact h x hx
          · exact (ok_node hl p.ref).i.h x hx
        · exact h x hx
theorem its_visit {l : List NamedM} (hl : okL l) : ∀ (d : Nat) (p : PlaceM) (w : WM), (∀ x ∈ w.items, okIt x) → ∀ x ∈ (visitM l d p w).2.items, okIt x
  | 0, _, w, h => h
  | d + 1, p, w, h => by
    rw [visitM]
    split
    · exact its_node hl h
    · exact goM_inv (P := fun w => ∀ x ∈ w.items, okIt x) (fun p w h => its_visit hl d p w h) p _ _ _ (its_node hl h)
theorem its_all {l : List NamedM} (hl : okL l) (root : Int) : ∀ x ∈ (allM l root).1.items, okIt x := by
  unfold allM
  split
  · intro x hx; cases hx
  · exact its_visit hl 12 _ _ (by intro x hx; cases hx)
theorem okW_all {l : List NamedM} (ht : tinyL l) (root : Int) : okW l (allM l root).1 := by
  have h0 : okW l w0 := ⟨List.nodup_nil, (by intro r hr; cases hr), Nat.le_refl _⟩
  unfold allM
  split
  · exact h0
  · exact okW_visit ht 12 _ _ h0
theorem few_len {l : List NamedM} (h : fewM l = true) : l.length ≤ 1000 := by
  simp only [fewM, Bool.and_eq_true, decide_eq_true_eq] at h
  omega
theorem l4a (w : WM) (no : Int) (h : ∀ x ∈ w.items, okIt x) (hn : w.items.length ≤ 1000000) {Q : AExit → Env → Heap → Prop}
   (hex : ∀ f', f' 5 = .ptr 0 0 0 → f' 7 = .ptr 1 0 0 → Q (.exit 0) (mkE 94 f') (hx Heap.empty [.box false (wholeC w), .box false (wholeD w no)])) :
   ∀ (d i : Nat) (f : Nat → AV), i + d = w.items.length → f 5 = .ptr 0 0 0 → f 7 = .ptr 1 0 0 → f 58 = int w.items.length → f 59 = int i →
    AW ft (.loop c4L0) (mkE 94 f) (hx Heap.empty [.box false (wholeC w), .box false (wholeD w no)]) Q := by
  have a0 : (wholeC w).take 1 = [encI w.items] := rfl
  have al : (wholeC w).length = 3 := rfl
  have b0 : (wholeD w no).take 1 = [encI w.items] := rfl
  have bl' : (wholeD w no).length = 4 := rfl
  intro d
  induction d with
  | zero =>
    intro i f hd h5 h7 h58 h59
    have g : ((i : Int) < w.items.length) = False := eq_false (by omega)
    rw [AW_loop]
    unfold c4L0
    simp only [↓vp, vq0, vq1, vq2, vq3, vr0, vr1, vr2, vr3, vr4, vr5, vr6, vr7, vr8, vr9, vr10, vr11, vr12, vr13, vr14, vr15, vr16, vr17, vr18, vr19, vr20, vr21, vr22, vr23, vr24, vr25, vr26, vr27, vr28, vr29, vr30, vr31, vr32, vr33, vr34, opS, fpS, okP, pack, nAl, allocA, shId, leaves, fillA, fillR, splice, Nat.reduceLT, Nat.reduceEqDiff, Nat.reduceLeDiff, Nat.reduceAdd, Nat.reduceSub, Nat.reduceMul, Int.reduceBEq, Int.reduceBNe, Int.reduceLT, Int.reduceLE, Int.reduceEq, reduceIte, reduceCtorEq, da, int, boolA, h58, h59, g]
    refine hex _ ?_ ?_ <;> simp only [↓vp, vq0, vq1, vq2, vq3, vr0, vr1, vr2, vr3, vr4, vr5, vr6, vr7, vr8, vr9, vr10, vr11, vr12, vr13, vr14, vr15, vr16, vr17, vr18, vr19, vr20, vr21, vr22, vr23, vr24, vr25, vr26, vr27, vr28, vr29, vr30, vr31, vr32, vr33, vr34, opS, fpS, okP, pack, nAl, allocA, shId, leaves, fillA, fillR, splice, Nat.reduceLT, Nat.reduceEqDiff, Nat.reduceLeDiff, Nat.reduceAdd, Nat.reduceSub, Nat.reduceMul, Int.reduceBEq, Int.reduceBNe, Int.reduceLT, Int.reduceLE, Int.reduceEq, reduceIte, reduceCtorEq, da, int, boolA, h5, h7]
  | succ d ih =>
    intro i f hd h5 h7 h58 h59
    have g : ((i : Int) < w.items.length) = True := eq_true (by omega)
    have gi : i < w.items.length := by omega
    have w1 := wrap_succ (show i < 9223372036854775807 by omega)
    have hx_ := h _ (List.getElem_mem gi)
    rw [AW_loop]
    unfold c4L0
    simp only [↓vp, vq0, vq1, vq2, vq3, vr0, vr1, vr2, vr3, vr4, vr5, vr6, vr7, vr8, vr9, vr10, vr11, vr12, vr13, vr14, vr15, vr16, vr17, vr18, vr19, vr20, vr21, vr22, vr23, vr24, vr25, vr26, vr27, vr28, vr29, vr30, vr31, vr32, vr33, vr34, opS, fpS, okP, pack, nAl, allocA, shId, leaves, fillA, fillR, splice, Nat.reduceLT, Nat.reduceEqDiff, Nat.reduceLeDiff, Nat.reduceAdd, Nat.reduceSub, Nat.reduceMul, Int.reduceBEq, Int.reduceBNe, Int.reduceLT, Int.reduceLE, Int.reduceEq, reduceIte, reduceCtorEq, da, int, boolA, h5, h7, h58, h59, g, a0, al, b0, bl', atI gi, cI gi, k23, hx_, sameI_refl, w1]
    refine ih (i + 1) _ (by omega) ?_ ?_ ?_ ?_ <;> simp only [↓vp, vq0, vq1, vq2, vq3, vr0, vr1, vr2, vr3, vr4, vr5, vr6, vr7, vr8, vr9, vr10, vr11, vr12, vr13, vr14, vr15, vr16, vr17, vr18, vr19, vr20, vr21, vr22, vr23, vr24, vr25, vr26, vr27, vr28, vr29, vr30, vr31, vr32, vr33, vr34, opS, fpS, okP, pack, nAl, allocA, shId, leaves, fillA, fillR, splice, Nat.reduceLT, Nat.reduceEqDiff, Nat.reduceLeDiff, Nat.reduceAdd, Nat.reduceSub, Nat.reduceMul, Int.reduceBEq, Int.reduceBNe, Int.reduceLT, Int.reduceLE, Int.reduceEq, reduceIte, reduceCtorEq, da, int, boolA, h5, h7, h58]
theorem l4b (w : WM) (no : Int) (hn : w.refs.length ≤ 1000) {Q : AExit → Env → Heap → Prop}
   (hex : ∀ f', Q (.exit 2) (mkE 94 f') (hx Heap.empty [.box false (wholeC w), .box false (wholeD w no)])) :
   ∀ (d i : Nat) (f : Nat → AV), i + d = w.refs.length → f 5 = .ptr 0 0 0 → f 7 = .ptr 1 0 0 → f 77 = int w.refs.length → f 78 = int i →
    AW ft (.loop c4L1) (mkE 94 f) (hx Heap.empty [.box false (wholeC w), .box false (wholeD w no)]) Q := by
  have a0 : ((wholeC w).drop 1).take 1 = [encN w.refs] := rfl
  have al : (wholeC w).length = 3 := rfl
  have b0 : ((wholeD w no).drop 1).take 1 = [encN w.refs] := rfl
  have bl' : (wholeD w no).length = 4 := rfl
  intro d
  induction d with
  | zero =>
    intro i f hd h5 h7 h58 h59
    have g : ((i : Int) < w.refs.length) = False := eq_false (by omega)
    rw [AW_loop]
    unfold c4L1
    simp only [↓vp, vq0, vq1, vq2, vq3, vr0, vr1, vr2, vr3, vr4, vr5, vr6, vr7, vr8, vr9, vr10, vr11, vr12, vr13, vr14, vr15, vr16, vr17, vr18, vr19, vr20, vr21, vr22, vr23, vr24, vr25, vr26, vr27, vr28, vr29, vr30, vr31, vr32, vr33, vr34, opS, fpS, okP, pack, nAl, allocA, shId, leaves, fillA, fillR, splice, Nat.reduceLT, Nat.reduceEqDiff, Nat.reduceLeDiff, Nat.reduceAdd, Nat.reduceSub, Nat.reduceMul, Int.reduceBEq, Int.reduceBNe, Int.reduceLT, Int.reduceLE, Int.reduceEq, reduceIte, reduceCtorEq, da, int, boolA, h58, h59, g]
    exact hex _
  | succ d ih =>
    intro i f hd h5 h7 h58 h59
    have g : ((i : Int) < w.refs.length) = True := eq_true (by omega)
    have gi : i < w.refs.length := by omega
    have w1 := wrap_succ (show i < 9223372036854775807 by omega)
    rw [AW_loop]
    unfold c4L1
    simp only [↓vp, vq0, vq1, vq2, vq3, vr0, vr1, vr2, vr3, vr4, vr5, vr6, vr7, vr8, vr9, vr10, vr11, vr12, vr13, vr14, vr15, vr16, vr17, vr18, vr19, vr20, vr21, vr22, vr23, vr24, vr25, vr26, vr27, vr28, vr29, vr30, vr31, vr32, vr33, vr34, opS, fpS, okP, pack, nAl, allocA, shId, leaves, fillA, fillR, splice, Nat.reduceLT, Nat.reduceEqDiff, Nat.reduceLeDiff, Nat.reduceAdd, Nat.reduceSub, Nat.reduceMul, Int.reduceBEq, Int.reduceBNe, Int.reduceLT, Int.reduceLE, Int.reduceEq, reduceIte, reduceCtorEq, da, int, boolA, h5, h7, h58, h59, g, a0, al, b0, bl', atN gi, cN gi, x_0, w1, bne_self_eq_false]
    refine ih (i + 1) _ (by omega) ?_ ?_ ?_ ?_ <;> simp only [↓vp, vq0, vq1, vq2, vq3, vr0, vr1, vr2, vr3, vr4, vr5, vr6, vr7, vr8, vr9, vr10, vr11, vr12, vr13, vr14, vr15, vr16, vr17, vr18, vr19, vr20, vr21, vr22, vr23, vr24, vr25, vr26, vr27, vr28, vr29, vr30, vr31, vr32, vr33, vr34, opS, fpS, okP, pack, nAl, allocA, shId, leaves, fillA, fillR, splice, Nat.reduceLT, Nat.reduceEqDiff, Nat.reduceLeDiff, Nat.reduceAdd, Nat.reduceSub, Nat.reduceMul, Int.reduceBEq, Int.reduceBNe, Int.reduceLT, Int.reduceLE, Int.reduceEq, reduceIte, reduceCtorEq, da, int, boolA, h5, h7, h58]
theorem s4 (l : List NamedM) (hl : okL l) (root : Int) (H : Heap) : callL ft (.fn (.func 4) [] []) [encL l, int root] H = some (boolA true, H) := by
  refine call_p (as' := [encL l, int root]) rfl rfl (by simp) ?_
  have ha' := fun K L Q => alive14 K L Q
  unfold c4 r4
  cases e1 : fewM l with
  | false => simp only [↓vp, vq0, vq1, vq2, vq3, vr0, vr1, vr2, vr3, vr4, vr5, vr6, vr7, vr8, vr9, vr10, vr11, vr12, vr13, vr14, vr15, vr16, vr17, vr18, vr19, vr20, vr21, vr22, vr23, vr24, vr25, vr26, vr27, vr28, vr29, vr30, vr31, vr32, vr33, vr34, opS, fpS, okP, pack, nAl, allocA, shId, leaves, fillA, fillR, splice, Nat.reduceLT, Nat.reduceEqDiff, Nat.reduceLeDiff, Nat.reduceAdd, Nat.reduceSub, Nat.reduceMul, Int.reduceBEq, Int.reduceBNe, Int.reduceLT, Int.reduceLE, Int.reduceEq, reduceIte, reduceCtorEq, da, int, boolA, RetP_go, resT, resC, resN, retV1, retV2, retV3, retV0, frzFZ, takeM, Option.some.injEq, k13, hl, e1, ha' _ _ _]
  | true =>
    have ht := few_tiny hl e1
    have hlen := few_len e1
    have x21 := fun K L Q => k21 hl ht hlen (root := root) (K := K) (L := L) (Q := Q)
    have x22 := fun K L Q => k22r hl ht hlen (root := root) (K := K) (L := L) (Q := Q)
    have hits := its_all hl root
    have hw := okW_all ht root
    have hle := hw.le
    have hln := hw.len
    generalize allM l root = A at *
    obtain ⟨w, no⟩ := A
    simp only at hits hw hle hln
    have a2 : ((wholeC w).drop 2).take 1 = [int w.depth] := rfl
    have a0 : (wholeC w).take 1 = [encI w.items] := rfl
    have a1 : ((wholeC w).drop 1).take 1 = [encN w.refs] := rfl
    have al : (wholeC w).length = 3 := rfl
    have ao : oneAll (wholeC w) = true := rfl
    have ad : (wholeC w).drop 3 = [] := rfl
    have b2 : ((wholeD w no).drop 2).take 1 = [int w.depth] := rfl
    have b3 : ((wholeD w no).drop 3).take 1 = [int no] := rfl
    have b0 : (wholeD w no).take 1 = [encI w.items] := rfl
    have b1 : ((wholeD w no).drop 1).take 1 = [encN w.refs] := rfl
    have bl' : (wholeD w no).length = 4 := rfl
    have bo' : oneAll (wholeD w no) = true := rfl
    have bd' : (wholeD w no).drop 4 = [] := rfl
    simp only [int, boolA] at x21 x22
    simp only [↓vp, vq0, vq1, vq2, vq3, vr0, vr1, vr2, vr3, vr4, vr5, vr6, vr7, vr8, vr9, vr10, vr11, vr12, vr13, vr14, vr15, vr16, vr17, vr18, vr19, vr20, vr21, vr22, vr23, vr24, vr25, vr26, vr27, vr28, vr29, vr30, vr31, vr32, vr33, vr34, opS, fpS, okP, pack, nAl, allocA, shId, leaves, fillA, fillR, splice, Nat.reduceLT, Nat.reduceEqDiff, Nat.reduceLeDiff, Nat.reduceAdd, Nat.reduceSub, Nat.reduceMul, Int.reduceBEq, Int.reduceBNe, Int.reduceLT, Int.reduceLE, Int.reduceEq, reduceIte, reduceCtorEq, da, int, boolA, k13, hl, e1, k17, x21, x22, a0, a1, a2, al, ao, ad, b0, b1, b2, b3, bl', bo', bd', lenN, bne_self_eq_false]
    refine l4a w no hits (by omega) (fun f' h5 h7 => ?_) w.items.length 0 _ (by simp) ?_ ?_ ?_ ?_
    · unfold c4R3
      simp only [↓vp, vq0, vq1, vq2, vq3, vr0, vr1, vr2, vr3, vr4, vr5, vr6, vr7, vr8, vr9, vr10, vr11, vr12, vr13, vr14, vr15, vr16, vr17, vr18, vr19, vr20, vr21, vr22, vr23, vr24, vr25, vr26, vr27, vr28, vr29, vr30, vr31, vr32, vr33, vr34, opS, fpS, okP, pack, nAl, allocA, shId, leaves, fillA, fillR, splice, Nat.reduceLT, Nat.reduceEqDiff, Nat.reduceLeDiff, Nat.reduceAdd, Nat.reduceSub, Nat.reduceMul, Int.reduceBEq, Int.reduceBNe, Int.reduceLT, Int.reduceLE, Int.reduceEq, reduceIte, reduceCtorEq, da, int, boolA, h5, h7, b0, b1, bl', lenN]
      refine l4b w no (by omega) (fun f' => ?_) w.refs.length 0 _ (by simp) ?_ ?_ ?_ ?_
      · unfold c4R2
        simp only [↓vp, vq0, vq1, vq2, vq3, vr0, vr1, vr2, vr3, vr4, vr5, vr6, vr7, vr8, vr9, vr10, vr11, vr12, vr13, vr14, vr15, vr16, vr17, vr18, vr19, vr20, vr21, vr22, vr23, vr24, vr25, vr26, vr27, vr28, vr29, vr30, vr31, vr32, vr33, vr34, opS, fpS, okP, pack, nAl, allocA, shId, leaves, fillA, fillR, splice, Nat.reduceLT, Nat.reduceEqDiff, Nat.reduceLeDiff, Nat.reduceAdd, Nat.reduceSub, Nat.reduceMul, Int.reduceBEq, Int.reduceBNe, Int.reduceLT, Int.reduceLE, Int.reduceEq, reduceIte, reduceCtorEq, da, int, boolA, RetP_go, resT, resC, resN, retV1, retV2, retV3, retV0, frzFZ, takeM, Option.some.injEq, ha' _ _ _]
      all_goals simp only [↓vp, vq0, vq1, vq2, vq3, vr0, vr1, vr2, vr3, vr4, vr5, vr6, vr7, vr8, vr9, vr10, vr11, vr12, vr13, vr14, vr15, vr16, vr17, vr18, vr19, vr20, vr21, vr22, vr23, vr24, vr25, vr26, vr27, vr28, vr29, vr30, vr31, vr32, vr33, vr34, opS, fpS, okP, pack, nAl, allocA, shId, leaves, fillA, fillR, splice, Nat.reduceLT, Nat.reduceEqDiff, Nat.reduceLeDiff, Nat.reduceAdd, Nat.reduceSub, Nat.reduceMul, Int.reduceBEq, Int.reduceBNe, Int.reduceLT, Int.reduceLE, Int.reduceEq, reduceIte, reduceCtorEq, da, int, boolA, h5, h7]
      try rfl
    all_goals first | rfl | (simp only [↓vp, vq0, vq1, vq2, vq3, vr0, vr1, vr2, vr3, vr4, vr5, vr6, vr7, vr8, vr9, vr10, vr11, vr12, vr13, vr14, vr15, vr16, vr17, vr18, vr19, vr20, vr21, vr22, vr23, vr24, vr25, vr26, vr27, vr28, vr29, vr30, vr31, vr32, vr33, vr34, opS, fpS, okP, pack, nAl, allocA, shId, leaves, fillA, fillR, splice, Nat.reduceLT, Nat.reduceEqDiff, Nat.reduceLeDiff, Nat.reduceAdd, Nat.reduceSub, Nat.reduceMul, Int.reduceBEq, Int.reduceBNe, Int.reduceLT, Int.reduceLE, Int.reduceEq, reduceIte, reduceCtorEq, da, int, boolA]; done)
end Go.VI

