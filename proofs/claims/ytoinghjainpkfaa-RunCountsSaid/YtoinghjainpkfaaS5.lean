import Derived.Test.YtoinghjainpkfaaS4
/- What the claim hangs on, part 5: PC PD PE PF PG PH PI PJ PP. -/
set_option linter.unusedVariables false
set_option linter.unusedSimpArgs false
set_option maxRecDepth 100000
namespace Go.VI
attribute [local congr] AW_congr OW_congr DW_congr NW_congr VW_congr GW_congr PW_congr KW_congr ite_congr' GV_congr CV_congr
def fewR (x : RunM) : Bool := !(mayM x && decide (600 < endM x))
def few4 (l : List RunM) : Bool := decide (l.length ≤ 60) && l.all fewR
theorem l35 (l : List RunM) (hl : l.length ≤ 60) {Q : AExit → Env → Heap → Prop}
   (hex : ∀ f' K, l.all fewR = true → Q (.exit 0) (mkE 25 f') (hx K []))
   (hret : ∀ f' K, l.all fewR = false → f' 2 = boolA false → Q .ret (mkE 25 f') (hx K [])) :
   ∀ (d i : Nat) (K : Heap) (f : Nat → AV), i + d = l.length → l.all fewR = (l.drop i).all fewR → f 8 = encR l → f 9 = int l.length → f 10 = int i →
    AW ft (.loop c35L0) (mkE 25 f) (hx K []) Q := by
  intro d
  induction d with
  | zero =>
    intro i K f hd hc h8 h9 h10
    have g1 : ((i : Int) < l.length) = False := by simp; omega
    rw [AW_loop]
    unfold c35L0
    rw [List.drop_eq_nil_of_le (by omega)] at hc
    simp only [↓vp, vq0, vq1, vq2, vq3, vr0, vr1, vr2, vr3, vr4, vr5, vr6, vr7, vr8, vr9, vr10, vr11, vr12, vr13, vr14, vr15, vr16, vr17, vr18, vr19, vr20, vr21, vr22, vr23, vr24, vr25, vr26, vr27, vr28, vr29, vr30, vr31, vr32, vr33, vr34, opS, fpS, extO, okP, pack, nAl, allocA, shId, leaves, fillA, fillR, splice, Nat.reduceLT, Nat.reduceEqDiff, Nat.reduceLeDiff, Nat.reduceAdd, Nat.reduceSub, Nat.reduceMul, Int.reduceBEq, Int.reduceBNe, Int.reduceLT, Int.reduceLE, Int.reduceEq, reduceIte, reduceCtorEq, da, int, boolA, h9, h10, g1]
    exact hex _ K (by rw [hc]; rfl)
  | succ d ih =>
    intro i K f hd hc h8 h9 h10
    have g1 : ((i : Int) < l.length) = True := by simp; omega
    have gi : i < l.length := by omega
    have w1 := wrap_succ (show i < 9223372036854775807 by omega)
    rw [List.drop_eq_getElem_cons gi, List.all_cons] at hc
    have km := fun K L Q => @k49 l[i] K L Q
    simp only [runC, int] at km
    rw [AW_loop]
    unfold c35L0
    cases c1 : mayM l[i] with
    | false =>
      rw [c1] at km
      have e : fewR l[i] = true := by simp [fewR, c1]
      rw [e, Bool.true_and] at hc
      simp only [↓vp, vq0, vq1, vq2, vq3, vr0, vr1, vr2, vr3, vr4, vr5, vr6, vr7, vr8, vr9, vr10, vr11, vr12, vr13, vr14, vr15, vr16, vr17, vr18, vr19, vr20, vr21, vr22, vr23, vr24, vr25, vr26, vr27, vr28, vr29, vr30, vr31, vr32, vr33, vr34, opS, fpS, extO, okP, pack, nAl, allocA, shId, leaves, fillA, fillR, splice, Nat.reduceLT, Nat.reduceEqDiff, Nat.reduceLeDiff, Nat.reduceAdd, Nat.reduceSub, Nat.reduceMul, Int.reduceBEq, Int.reduceBNe, Int.reduceLT, Int.reduceLE, Int.reduceEq, reduceIte, reduceCtorEq, da, int, boolA, dr, h8, h9, h10, g1, atR gi, cR gi, runC, km, w1]
      rw [← hx_nil (hx K _)]
      refine ih (i + 1) _ _ (by omega) hc ?_ ?_ ?_ <;> simp only [↓vp, vq0, vq1, vq2, vq3, vr0, vr1, vr2, vr3, vr4, vr5, vr6, vr7, vr8, vr9, vr10, vr11, vr12, vr13, vr14, vr15, vr16, vr17, vr18, vr19, vr20, vr21, vr22, vr23, vr24, vr25, vr26, vr27, vr28, vr29, vr30, vr31, vr32, vr33, vr34, opS, fpS, extO, okP, pack, nAl, allocA, shId, leaves, fillA, fillR, splice, Nat.reduceLT, Nat.reduceEqDiff, Nat.reduceLeDiff, Nat.reduceAdd, Nat.reduceSub, Nat.reduceMul, Int.reduceBEq, Int.reduceBNe, Int.reduceLT, Int.reduceLE, Int.reduceEq, reduceIte, reduceCtorEq, da, int, boolA, h8, h9]
    | true =>
      rw [c1] at km
      have w3 : IntKind.i64.wrap (l[i].1 + l[i].2) = endM l[i] := wrap_i64 (by have := mayM_iff.1 c1; omega)
      by_cases c2 : 600 < endM l[i]
      · have d2 : (endM l[i] > 600) = True := eq_true (by omega)
        have e : fewR l[i] = false := by simp [fewR, c1, c2]
        rw [e, Bool.false_and] at hc
        simp only [↓vp, vq0, vq1, vq2, vq3, vr0, vr1, vr2, vr3, vr4, vr5, vr6, vr7, vr8, vr9, vr10, vr11, vr12, vr13, vr14, vr15, vr16, vr17, vr18, vr19, vr20, vr21, vr22, vr23, vr24, vr25, vr26, vr27, vr28, vr29, vr30, vr31, vr32, vr33, vr34, opS, fpS, extO, okP, pack, nAl, allocA, shId, leaves, fillA, fillR, splice, Nat.reduceLT, Nat.reduceEqDiff, Nat.reduceLeDiff, Nat.reduceAdd, Nat.reduceSub, Nat.reduceMul, Int.reduceBEq, Int.reduceBNe, Int.reduceLT, Int.reduceLE, Int.reduceEq, reduceIte, reduceCtorEq, da, int, boolA, dr, h8, h9, h10, g1, atR gi, cR gi, runC, km, w3, d2]
        rw [← hx_nil (hx K _)]
        refine hret _ _ hc ?_
        simp only [↓vp, vq0, vq1, vq2, vq3, vr0, vr1, vr2, vr3, vr4, vr5, vr6, vr7, vr8, vr9, vr10, vr11, vr12, vr13, vr14, vr15, vr16, vr17, vr18, vr19, vr20, vr21, vr22, vr23, vr24, vr25, vr26, vr27, vr28, vr29, vr30, vr31, vr32, vr33, vr34, opS, fpS, extO, okP, pack, nAl, allocA, shId, leaves, fillA, fillR, splice, Nat.reduceLT, Nat.reduceEqDiff, Nat.reduceLeDiff, Nat.reduceAdd, Nat.reduceSub, Nat.reduceMul, Int.reduceBEq, Int.reduceBNe, Int.reduceLT, Int.reduceLE, Int.reduceEq, reduceIte, reduceCtorEq, da, int, boolA]
      · have d2 : (endM l[i] > 600) = False := eq_false (by omega)
        have e : fewR l[i] = true := by simp [fewR, c2]
        rw [e, Bool.true_and] at hc
        simp only [↓vp, vq0, vq1, vq2, vq3, vr0, vr1, vr2, vr3, vr4, vr5, vr6, vr7, vr8, vr9, vr10, vr11, vr12, vr13, vr14, vr15, vr16, vr17, vr18, vr19, vr20, vr21, vr22, vr23, vr24, vr25, vr26, vr27, vr28, vr29, vr30, vr31, vr32, vr33, vr34, opS, fpS, extO, okP, pack, nAl, allocA, shId, leaves, fillA, fillR, splice, Nat.reduceLT, Nat.reduceEqDiff, Nat.reduceLeDiff, Nat.reduceAdd, Nat.reduceSub, Nat.reduceMul, Int.reduceBEq, Int.reduceBNe, Int.reduceLT, Int.reduceLE, Int.reduceEq, reduceIte, reduceCtorEq, da, int, boolA, dr, h8, h9, h10, g1, atR gi, cR gi, runC, km, w3, d2, w1]
        rw [← hx_nil (hx K _)]
        refine ih (i + 1) _ _ (by omega) hc ?_ ?_ ?_ <;> simp only [↓vp, vq0, vq1, vq2, vq3, vr0, vr1, vr2, vr3, vr4, vr5, vr6, vr7, vr8, vr9, vr10, vr11, vr12, vr13, vr14, vr15, vr16, vr17, vr18, vr19, vr20, vr21, vr22, vr23, vr24, vr25, vr26, vr27, vr28, vr29, vr30, vr31, vr32, vr33, vr34, opS, fpS, extO, okP, pack, nAl, allocA, shId, leaves, fillA, fillR, splice, Nat.reduceLT, Nat.reduceEqDiff, Nat.reduceLeDiff, Nat.reduceAdd, Nat.reduceSub, Nat.reduceMul, Int.reduceBEq, Int.reduceBNe, Int.reduceLT, Int.reduceLE, Int.reduceEq, reduceIte, reduceCtorEq, da, int, boolA, h8, h9]
theorem s35 (l : List RunM) (H : Heap) : callL ft (.fn (.func 35) [] []) [encR l] H = some (boolA (few4 l), H) := by
  refine call_p (as' := [encR l]) rfl rfl (by simp) ?_
  unfold c35 r35
  by_cases c1 : l.length ≤ 60
  · have d1 : ((l.length : Int) > 60) = False := eq_false (by omega)
    have ef : few4 l = l.all fewR := by simp [few4, c1]
    rw [ef]
    simp only [↓vp, vq0, vq1, vq2, vq3, vr0, vr1, vr2, vr3, vr4, vr5, vr6, vr7, vr8, vr9, vr10, vr11, vr12, vr13, vr14, vr15, vr16, vr17, vr18, vr19, vr20, vr21, vr22, vr23, vr24, vr25, vr26, vr27, vr28, vr29, vr30, vr31, vr32, vr33, vr34, opS, fpS, extO, okP, pack, nAl, allocA, shId, leaves, fillA, fillR, splice, Nat.reduceLT, Nat.reduceEqDiff, Nat.reduceLeDiff, Nat.reduceAdd, Nat.reduceSub, Nat.reduceMul, Int.reduceBEq, Int.reduceBNe, Int.reduceLT, Int.reduceLE, Int.reduceEq, reduceIte, reduceCtorEq, da, int, boolA, dr, d1]
    rw [← hx_nil (Heap.empty)]
    refine l35 l c1 (fun f' K hm => ?_) (fun f' K hm q2 => ?_) l.length 0 _ _ (by simp) rfl ?_ ?_ ?_
    · unfold c35R1
      simp only [↓vp, vq0, vq1, vq2, vq3, vr0, vr1, vr2, vr3, vr4, vr5, vr6, vr7, vr8, vr9, vr10, vr11, vr12, vr13, vr14, vr15, vr16, vr17, vr18, vr19, vr20, vr21, vr22, vr23, vr24, vr25, vr26, vr27, vr28, vr29, vr30, vr31, vr32, vr33, vr34, opS, fpS, extO, okP, pack, nAl, allocA, shId, leaves, fillA, fillR, splice, Nat.reduceLT, Nat.reduceEqDiff, Nat.reduceLeDiff, Nat.reduceAdd, Nat.reduceSub, Nat.reduceMul, Int.reduceBEq, Int.reduceBNe, Int.reduceLT, Int.reduceLE, Int.reduceEq, reduceIte, reduceCtorEq, da, int, boolA, RetP_go, resT, resC, resN, retV1, retV2, retV3, retV0, frzFZ, takeM, Option.some.injEq, hm]
    · simp only [↓vp, vq0, vq1, vq2, vq3, vr0, vr1, vr2, vr3, vr4, vr5, vr6, vr7, vr8, vr9, vr10, vr11, vr12, vr13, vr14, vr15, vr16, vr17, vr18, vr19, vr20, vr21, vr22, vr23, vr24, vr25, vr26, vr27, vr28, vr29, vr30, vr31, vr32, vr33, vr34, opS, fpS, extO, okP, pack, nAl, allocA, shId, leaves, fillA, fillR, splice, Nat.reduceLT, Nat.reduceEqDiff, Nat.reduceLeDiff, Nat.reduceAdd, Nat.reduceSub, Nat.reduceMul, Int.reduceBEq, Int.reduceBNe, Int.reduceLT, Int.reduceLE, Int.reduceEq, reduceIte, reduceCtorEq, da, int, boolA, RetP_go, resT, resC, resN, retV1, retV2, retV3, retV0, frzFZ, takeM, Option.some.injEq, hm, q2]
    all_goals first | rfl | (simp only [↓vp, vq0, vq1, vq2, vq3, vr0, vr1, vr2, vr3, vr4, vr5, vr6, vr7, vr8, vr9, vr10, vr11, vr12, vr13, vr14, vr15, vr16, vr17, vr18, vr19, vr20, vr21, vr22, vr23, vr24, vr25, vr26, vr27, vr28, vr29, vr30, vr31, vr32, vr33, vr34, opS, fpS, extO, okP, pack, nAl, allocA, shId, leaves, fillA, fillR, splice, Nat.reduceLT, Nat.reduceEqDiff, Nat.reduceLeDiff, Nat.reduceAdd, Nat.reduceSub, Nat.reduceMul, Int.reduceBEq, Int.reduceBNe, Int.reduceLT, Int.reduceLE, Int.reduceEq, reduceIte, reduceCtorEq, da, int, boolA]; done)
  · have d1 : ((l.length : Int) > 60) = True := eq_true (by omega)
    have ef : few4 l = false := by simp [few4, c1]
    rw [ef]
    simp only [↓vp, vq0, vq1, vq2, vq3, vr0, vr1, vr2, vr3, vr4, vr5, vr6, vr7, vr8, vr9, vr10, vr11, vr12, vr13, vr14, vr15, vr16, vr17, vr18, vr19, vr20, vr21, vr22, vr23, vr24, vr25, vr26, vr27, vr28, vr29, vr30, vr31, vr32, vr33, vr34, opS, fpS, extO, okP, pack, nAl, allocA, shId, leaves, fillA, fillR, splice, Nat.reduceLT, Nat.reduceEqDiff, Nat.reduceLeDiff, Nat.reduceAdd, Nat.reduceSub, Nat.reduceMul, Int.reduceBEq, Int.reduceBNe, Int.reduceLT, Int.reduceLE, Int.reduceEq, reduceIte, reduceCtorEq, da, int, boolA, RetP_go, resT, resC, resN, retV1, retV2, retV3, retV0, frzFZ, takeM, Option.some.injEq, dr, d1]
def sumM (l : List RunM) : Int := (l.map (·.2)).sum
theorem sumM_cons (x : RunM) (l : List RunM) : sumM (x :: l) = x.2 + sumM l := rfl
theorem sumM_take {l : List RunM} {i : Nat} (h : i < l.length) : sumM (l.take (i + 1)) = sumM (l.take i) + l[i].2 := by
  unfold sumM
  rw [List.take_succ_eq_append_getElem h, List.map_append, List.sum_append]
  simp
theorem sumM_bd {l : List RunM} (h : ∀ x ∈ l, mayM x = true) : 0 ≤ sumM l ∧ sumM l ≤ 32768 * l.length := by
  induction l with
  | nil => exact ⟨Int.le_refl _, Int.le_refl _⟩
  | cons x l ih =>
    have h1 := mayM_iff.1 (h x (by simp))
    have h2 := ih fun y hy => h y (by simp [hy])
    rw [sumM_cons, List.length_cons]
    omega
theorem rgt_may : ∀ {l : List RunM} {e : Int}, rgtL e l = true → ∀ x ∈ l, mayM x = true
  | [], _, _, x, hx => by cases hx
  | y :: l, e, h, x, hx => by
    simp only [rgtL, Bool.and_eq_true] at h
    rcases List.mem_cons.1 hx with rfl | hx
    · exact h.1
    · exact rgt_may h.2.2 x hx
theorem clean_may (l : List RunM) : ∀ x ∈ cleanM l, mayM x = true := by
  intro x hx
  unfold cleanM at hx
  split at hx
  · rename_i h
    exact rgt_may h x hx
  · cases hx
theorem l42 (l : List RunM) (hl : l.length ≤ 1000000) (hm : ∀ x ∈ l, mayM x = true) {Q : AExit → Env → Heap → Prop}
   (hex : ∀ f' K, f' 3 = int (sumM l) → Q (.exit 0) (mkE 19 f') (hx K [])) :
   ∀ (d i : Nat) (K : Heap) (f : Nat → AV), i + d = l.length → f 3 = int (sumM (l.take i)) → f 7 = encR l → f 8 = int l.length → f 9 = int i →
    AW ft (.loop c42L0) (mkE 19 f) (hx K []) Q := by
  intro d
  induction d with
  | zero =>
    intro i K f hd h3 h7 h8 h9
    have g1 : ((i : Int) < l.length) = False := by simp; omega
    rw [AW_loop]
    unfold c42L0
    rw [List.take_of_length_le (by omega)] at h3
    simp only [↓vp, vq0, vq1, vq2, vq3, vr0, vr1, vr2, vr3, vr4, vr5, vr6, vr7, vr8, vr9, vr10, vr11, vr12, vr13, vr14, vr15, vr16, vr17, vr18, vr19, vr20, vr21, vr22, vr23, vr24, vr25, vr26, vr27, vr28, vr29, vr30, vr31, vr32, vr33, vr34, opS, fpS, extO, okP, pack, nAl, allocA, shId, leaves, fillA, fillR, splice, Nat.reduceLT, Nat.reduceEqDiff, Nat.reduceLeDiff, Nat.reduceAdd, Nat.reduceSub, Nat.reduceMul, Int.reduceBEq, Int.reduceBNe, Int.reduceLT, Int.reduceLE, Int.reduceEq, reduceIte, reduceCtorEq, da, int, boolA, h8, h9, g1]
    refine hex _ K ?_
    simp only [↓vp, vq0, vq1, vq2, vq3, vr0, vr1, vr2, vr3, vr4, vr5, vr6, vr7, vr8, vr9, vr10, vr11, vr12, vr13, vr14, vr15, vr16, vr17, vr18, vr19, vr20, vr21, vr22, vr23, vr24, vr25, vr26, vr27, vr28, vr29, vr30, vr31, vr32, vr33, vr34, opS, fpS, extO, okP, pack, nAl, allocA, shId, leaves, fillA, fillR, splice, Nat.reduceLT, Nat.reduceEqDiff, Nat.reduceLeDiff, Nat.reduceAdd, Nat.reduceSub, Nat.reduceMul, Int.reduceBEq, Int.reduceBNe, Int.reduceLT, Int.reduceLE, Int.reduceEq, reduceIte, reduceCtorEq, da, int, boolA, h3]
  | succ d ih =>
    intro i K f hd h3 h7 h8 h9
    have g1 : ((i : Int) < l.length) = True := by simp; omega
    have gi : i < l.length := by omega
    have w1 := wrap_succ (show i < 9223372036854775807 by omega)
    have b1 := sumM_bd (l := l.take (i + 1)) fun x hx => hm x (List.mem_of_mem_take hx)
    have b2 : (l.take (i + 1)).length ≤ 1000000 := by simp; omega
    have w2 : IntKind.i64.wrap (sumM (l.take i) + l[i].2) = sumM (l.take (i + 1)) := by
      rw [← sumM_take gi]
      exact wrap_i64 (by omega)
    rw [AW_loop]
    unfold c42L0
    simp only [↓vp, vq0, vq1, vq2, vq3, vr0, vr1, vr2, vr3, vr4, vr5, vr6, vr7, vr8, vr9, vr10, vr11, vr12, vr13, vr14, vr15, vr16, vr17, vr18, vr19, vr20, vr21, vr22, vr23, vr24, vr25, vr26, vr27, vr28, vr29, vr30, vr31, vr32, vr33, vr34, opS, fpS, extO, okP, pack, nAl, allocA, shId, leaves, fillA, fillR, splice, Nat.reduceLT, Nat.reduceEqDiff, Nat.reduceLeDiff, Nat.reduceAdd, Nat.reduceSub, Nat.reduceMul, Int.reduceBEq, Int.reduceBNe, Int.reduceLT, Int.reduceLE, Int.reduceEq, reduceIte, reduceCtorEq, da, int, boolA, dr, h3, h7, h8, h9, g1, atR gi, cR gi, runC, w1, w2]
    rw [← hx_nil (hx K _)]
    refine ih (i + 1) _ _ (by omega) ?_ ?_ ?_ ?_ <;> simp only [↓vp, vq0, vq1, vq2, vq3, vr0, vr1, vr2, vr3, vr4, vr5, vr6, vr7, vr8, vr9, vr10, vr11, vr12, vr13, vr14, vr15, vr16, vr17, vr18, vr19, vr20, vr21, vr22, vr23, vr24, vr25, vr26, vr27, vr28, vr29, vr30, vr31, vr32, vr33, vr34, opS, fpS, extO, okP, pack, nAl, allocA, shId, leaves, fillA, fillR, splice, Nat.reduceLT, Nat.reduceEqDiff, Nat.reduceLeDiff, Nat.reduceAdd, Nat.reduceSub, Nat.reduceMul, Int.reduceBEq, Int.reduceBNe, Int.reduceLT, Int.reduceLE, Int.reduceEq, reduceIte, reduceCtorEq, da, int, boolA, h7, h8]
def countM (l : List RunM) : Int := sumM (cleanM l)
theorem s42 (l : List RunM) (hl : l.length ≤ 1000000) (H : Heap) : callL ft (.fn (.func 42) [] []) [encR l] H = some (int (countM l), H) := by
  refine call_p (as' := [encR l]) rfl rfl (by simp) ?_
  unfold c42 r42
  have kc := fun K L Q => @k105 l hl K L Q
  have hl2 := cleanM_len l
  simp only [↓vp, vq0, vq1, vq2, vq3, vr0, vr1, vr2, vr3, vr4, vr5, vr6, vr7, vr8, vr9, vr10, vr11, vr12, vr13, vr14, vr15, vr16, vr17, vr18, vr19, vr20, vr21, vr22, vr23, vr24, vr25, vr26, vr27, vr28, vr29, vr30, vr31, vr32, vr33, vr34, opS, fpS, extO, okP, pack, nAl, allocA, shId, leaves, fillA, fillR, splice, Nat.reduceLT, Nat.reduceEqDiff, Nat.reduceLeDiff, Nat.reduceAdd, Nat.reduceSub, Nat.reduceMul, Int.reduceBEq, Int.reduceBNe, Int.reduceLT, Int.reduceLE, Int.reduceEq, reduceIte, reduceCtorEq, da, int, boolA, dr, kc]
  rw [← hx_nil (Heap.empty)]
  refine l42 (cleanM l) (by omega) (clean_may l) (fun f' K q3 => ?_) (cleanM l).length 0 _ _ (by simp) ?_ ?_ ?_ ?_
  · unfold c42R1
    simp only [↓vp, vq0, vq1, vq2, vq3, vr0, vr1, vr2, vr3, vr4, vr5, vr6, vr7, vr8, vr9, vr10, vr11, vr12, vr13, vr14, vr15, vr16, vr17, vr18, vr19, vr20, vr21, vr22, vr23, vr24, vr25, vr26, vr27, vr28, vr29, vr30, vr31, vr32, vr33, vr34, opS, fpS, extO, okP, pack, nAl, allocA, shId, leaves, fillA, fillR, splice, Nat.reduceLT, Nat.reduceEqDiff, Nat.reduceLeDiff, Nat.reduceAdd, Nat.reduceSub, Nat.reduceMul, Int.reduceBEq, Int.reduceBNe, Int.reduceLT, Int.reduceLE, Int.reduceEq, reduceIte, reduceCtorEq, da, int, boolA, RetP_go, resT, resC, resN, retV1, retV2, retV3, retV0, frzFZ, takeM, Option.some.injEq, q3]
    rfl
  all_goals first | rfl | (simp only [↓vp, vq0, vq1, vq2, vq3, vr0, vr1, vr2, vr3, vr4, vr5, vr6, vr7, vr8, vr9, vr10, vr11, vr12, vr13, vr14, vr15, vr16, vr17, vr18, vr19, vr20, vr21, vr22, vr23, vr24, vr25, vr26, vr27, vr28, vr29, vr30, vr31, vr32, vr33, vr34, opS, fpS, extO, okP, pack, nAl, allocA, shId, leaves, fillA, fillR, splice, Nat.reduceLT, Nat.reduceEqDiff, Nat.reduceLeDiff, Nat.reduceAdd, Nat.reduceSub, Nat.reduceMul, Int.reduceBEq, Int.reduceBNe, Int.reduceLT, Int.reduceLE, Int.reduceEq, reduceIte, reduceCtorEq, da, int, boolA]; done)
def lastM (l : List RunM) : RunM := l.getLast?.getD (0, 0)
theorem s108 (l : List RunM) (hl : l.length ≤ 1000000) (H : Heap) : callL ft (.fn (.func 108) [] []) [encR l] H = some (.tup [.agg (runC (lastM l)), boolA (!l.isEmpty)], H) := by
  refine call_p (as' := [encR l]) rfl rfl (by simp) ?_
  unfold c108 r108
  by_cases h0 : l = []
  · subst h0
    have g1 : (((([] : List RunM).length : Nat) : Int) = 0) = True := eq_true rfl
    simp only [↓vp, vq0, vq1, vq2, vq3, vr0, vr1, vr2, vr3, vr4, vr5, vr6, vr7, vr8, vr9, vr10, vr11, vr12, vr13, vr14, vr15, vr16, vr17, vr18, vr19, vr20, vr21, vr22, vr23, vr24, vr25, vr26, vr27, vr28, vr29, vr30, vr31, vr32, vr33, vr34, opS, fpS, extO, okP, pack, nAl, allocA, shId, leaves, fillA, fillR, splice, Nat.reduceLT, Nat.reduceEqDiff, Nat.reduceLeDiff, Nat.reduceAdd, Nat.reduceSub, Nat.reduceMul, Int.reduceBEq, Int.reduceBNe, Int.reduceLT, Int.reduceLE, Int.reduceEq, reduceIte, reduceCtorEq, da, int, boolA, RetP_go, resT, resC, resN, retV1, retV2, retV3, retV0, frzFZ, takeM, Option.some.injEq, dr, g1]
    rfl
  · have hp : 0 < l.length := List.length_pos_iff.2 h0
    have g1 : ((l.length : Int) == 0) = false := by simp; omega
    have gi : l.length - 1 < l.length := by omega
    have w2 : IntKind.i64.wrap ((l.length : Int) - 1) = ((l.length - 1 : Nat) : Int) := by rw [wrap_i64 (by omega)]; omega
    have e : lastM l = l[l.length - 1] := by
      unfold lastM
      rw [List.getLast?_eq_getElem?, List.getElem?_eq_getElem gi]
      rfl
    have e2 : l.isEmpty = false := by simpa using h0
    rw [e, e2]
    simp only [↓vp, vq0, vq1, vq2, vq3, vr0, vr1, vr2, vr3, vr4, vr5, vr6, vr7, vr8, vr9, vr10, vr11, vr12, vr13, vr14, vr15, vr16, vr17, vr18, vr19, vr20, vr21, vr22, vr23, vr24, vr25, vr26, vr27, vr28, vr29, vr30, vr31, vr32, vr33, vr34, opS, fpS, extO, okP, pack, nAl, allocA, shId, leaves, fillA, fillR, splice, Nat.reduceLT, Nat.reduceEqDiff, Nat.reduceLeDiff, Nat.reduceAdd, Nat.reduceSub, Nat.reduceMul, Int.reduceBEq, Int.reduceBNe, Int.reduceLT, Int.reduceLE, Int.reduceEq, reduceIte, reduceCtorEq, da, int, boolA, RetP_go, resT, resC, resN, retV1, retV2, retV3, retV0, frzFZ, takeM, Option.some.injEq, dr, g1, w2, atR gi, cR gi, runC]
    try rfl
theorem k108 {l : List RunM} (hl : l.length ≤ 1000000) {K : Heap} {L : List Blk} {Q : AV → Heap → Prop} : KW ft (.fn (.func 108) [] []) [encR l] (hx K L) Q ↔ Q (.tup [.agg (runC (lastM l)), boolA (!l.isEmpty)]) (hx K L) := KW_of (s108 l hl _)
def endsM (l : List RunM) : Int := if (cleanM l).isEmpty then 0 else endM (lastM (cleanM l))
theorem s43 (l : List RunM) (hl : l.length ≤ 1000000) (H : Heap) : callL ft (.fn (.func 43) [] []) [encR l] H = some (int (endsM l), H) := by
  refine call_p (as' := [encR l]) rfl rfl (by simp) ?_
  unfold c43 r43 endsM
  have kc := fun K L Q => @k105 l hl K L Q
  have hl2 := cleanM_len l
  have kl := fun K L Q => @k108 (cleanM l) (by omega) K L Q
  simp only [runC, int] at kl
  cases e : (cleanM l).isEmpty with
  | true =>
    rw [e] at kl
    simp only [↓vp, vq0, vq1, vq2, vq3, vr0, vr1, vr2, vr3, vr4, vr5, vr6, vr7, vr8, vr9, vr10, vr11, vr12, vr13, vr14, vr15, vr16, vr17, vr18, vr19, vr20, vr21, vr22, vr23, vr24, vr25, vr26, vr27, vr28, vr29, vr30, vr31, vr32, vr33, vr34, opS, fpS, extO, okP, pack, nAl, allocA, shId, leaves, fillA, fillR, splice, Nat.reduceLT, Nat.reduceEqDiff, Nat.reduceLeDiff, Nat.reduceAdd, Nat.reduceSub, Nat.reduceMul, Int.reduceBEq, Int.reduceBNe, Int.reduceLT, Int.reduceLE, Int.reduceEq, reduceIte, reduceCtorEq, da, int, boolA, RetP_go, resT, resC, resN, retV1, retV2, retV3, retV0, frzFZ, takeM, Option.some.injEq, dr, kc, kl]
  | false =>
    rw [e] at kl
    have hm : mayM (lastM (cleanM l)) = true := by
      refine clean_may l _ ?_
      unfold lastM
      rw [List.getLast?_eq_some_getLast (by simpa using e)]
      exact List.getLast_mem _
    have ke := fun K L Q => @k107 (lastM (cleanM l)) (may_end hm) K L Q
    simp only [runC, int] at ke
    simp only [↓vp, vq0, vq1, vq2, vq3, vr0, vr1, vr2, vr3, vr4, vr5, vr6, vr7, vr8, vr9, vr10, vr11, vr12, vr13, vr14, vr15, vr16, vr17, vr18, vr19, vr20, vr21, vr22, vr23, vr24, vr25, vr26, vr27, vr28, vr29, vr30, vr31, vr32, vr33, vr34, opS, fpS, extO, okP, pack, nAl, allocA, shId, leaves, fillA, fillR, splice, Nat.reduceLT, Nat.reduceEqDiff, Nat.reduceLeDiff, Nat.reduceAdd, Nat.reduceSub, Nat.reduceMul, Int.reduceBEq, Int.reduceBNe, Int.reduceLT, Int.reduceLE, Int.reduceEq, reduceIte, reduceCtorEq, da, int, boolA, RetP_go, resT, resC, resN, retV1, retV2, retV3, retV0, frzFZ, takeM, Option.some.injEq, dr, kc, kl, ke]
theorem l45 (a b : List RunM) (hl : a.length ≤ 1000000) (hab : a.length = b.length) {Q : AExit → Env → Heap → Prop}
   (hex : ∀ f' K, a = b → Q (.exit 0) (mkE 26 f') (hx K []))
   (hret : ∀ f' K, a ≠ b → f' 4 = boolA false → Q .ret (mkE 26 f') (hx K [])) :
   ∀ (d i : Nat) (K : Heap) (f : Nat → AV), i + d = a.length → a.take i = b.take i → f 0 = encR a → f 1 = encR b → f 5 = int i →
    AW ft (.loop c45L0) (mkE 26 f) (hx K []) Q := by
  intro d
  induction d with
  | zero =>
    intro i K f hd hc h0 h1 h5
    have g1 : ((i : Int) < a.length) = False := by simp; omega
    rw [AW_loop]
    unfold c45L0
    rw [List.take_of_length_le (by omega), List.take_of_length_le (by omega)] at hc
    simp only [↓vp, vq0, vq1, vq2, vq3, vr0, vr1, vr2, vr3, vr4, vr5, vr6, vr7, vr8, vr9, vr10, vr11, vr12, vr13, vr14, vr15, vr16, vr17, vr18, vr19, vr20, vr21, vr22, vr23, vr24, vr25, vr26, vr27, vr28, vr29, vr30, vr31, vr32, vr33, vr34, opS, fpS, extO, okP, pack, nAl, allocA, shId, leaves, fillA, fillR, splice, Nat.reduceLT, Nat.reduceEqDiff, Nat.reduceLeDiff, Nat.reduceAdd, Nat.reduceSub, Nat.reduceMul, Int.reduceBEq, Int.reduceBNe, Int.reduceLT, Int.reduceLE, Int.reduceEq, reduceIte, reduceCtorEq, da, int, boolA, dr, h0, h1, h5, g1]
    exact hex _ K hc
  | succ d ih =>
    intro i K f hd hc h0 h1 h5
    have g1 : ((i : Int) < a.length) = True := by simp; omega
    have gi : i < a.length := by omega
    have gj : i < b.length := by omega
    have w1 := wrap_succ (show i < 9223372036854775807 by omega)
    rw [AW_loop]
    unfold c45L0
    by_cases c1 : a[i] = b[i]
    · have hs : eqsA [0, 0] [.sc (.int .i64 a[i].1), .sc (.int .i64 a[i].2)] [.sc (.int .i64 b[i].1), .sc (.int .i64 b[i].2)] = some true := by
        rw [c1]
        simp [eqsA, scEq]
      simp only [↓vp, vq0, vq1, vq2, vq3, vr0, vr1, vr2, vr3, vr4, vr5, vr6, vr7, vr8, vr9, vr10, vr11, vr12, vr13, vr14, vr15, vr16, vr17, vr18, vr19, vr20, vr21, vr22, vr23, vr24, vr25, vr26, vr27, vr28, vr29, vr30, vr31, vr32, vr33, vr34, opS, fpS, extO, okP, pack, nAl, allocA, shId, leaves, fillA, fillR, splice, Nat.reduceLT, Nat.reduceEqDiff, Nat.reduceLeDiff, Nat.reduceAdd, Nat.reduceSub, Nat.reduceMul, Int.reduceBEq, Int.reduceBNe, Int.reduceLT, Int.reduceLE, Int.reduceEq, reduceIte, reduceCtorEq, da, int, boolA, dr, h0, h1, h5, g1, atR gi, cR gi, atR gj, cR gj, runC, hs, w1]
      refine ih (i + 1) _ _ (by omega) ?_ ?_ ?_ ?_
      · rw [List.take_succ_eq_append_getElem gi, List.take_succ_eq_append_getElem gj, hc, c1]
      all_goals simp only [↓vp, vq0, vq1, vq2, vq3, vr0, vr1, vr2, vr3, vr4, vr5, vr6, vr7, vr8, vr9, vr10, vr11, vr12, vr13, vr14, vr15, vr16, vr17, vr18, vr19, vr20, vr21, vr22, vr23, vr24, vr25, vr26, vr27, vr28, vr29, vr30, vr31, vr32, vr33, vr34, opS, fpS, extO, okP, pack, nAl, allocA, shId, leaves, fillA, fillR, splice, Nat.reduceLT, Nat.reduceEqDiff, Nat.reduceLeDiff, Nat.reduceAdd, Nat.reduceSub, Nat.reduceMul, Int.reduceBEq, Int.reduceBNe, Int.reduceLT, Int.reduceLE, Int.reduceEq, reduceIte, reduceCtorEq, da, int, boolA, h0, h1]
    · have hs : eqsA [0, 0] [.sc (.int .i64 a[i].1), .sc (.int .i64 a[i].2)] [.sc (.int .i64 b[i].1), .sc (.int .i64 b[i].2)] = some false := by
        by_cases e1 : a[i].1 = b[i].1
        · have e2 : a[i].2 ≠ b[i].2 := fun e => c1 (Prod.ext e1 e)
          simp [eqsA, scEq, e1, e2]
        · simp [eqsA, scEq, e1]
      simp only [↓vp, vq0, vq1, vq2, vq3, vr0, vr1, vr2, vr3, vr4, vr5, vr6, vr7, vr8, vr9, vr10, vr11, vr12, vr13, vr14, vr15, vr16, vr17, vr18, vr19, vr20, vr21, vr22, vr23, vr24, vr25, vr26, vr27, vr28, vr29, vr30, vr31, vr32, vr33, vr34, opS, fpS, extO, okP, pack, nAl, allocA, shId, leaves, fillA, fillR, splice, Nat.reduceLT, Nat.reduceEqDiff, Nat.reduceLeDiff, Nat.reduceAdd, Nat.reduceSub, Nat.reduceMul, Int.reduceBEq, Int.reduceBNe, Int.reduceLT, Int.reduceLE, Int.reduceEq, reduceIte, reduceCtorEq, da, int, boolA, dr, h0, h1, h5, g1, atR gi, cR gi, atR gj, cR gj, runC, hs]
      refine hret _ _ (fun e => c1 (by subst e; rfl)) ?_
      simp only [↓vp, vq0, vq1, vq2, vq3, vr0, vr1, vr2, vr3, vr4, vr5, vr6, vr7, vr8, vr9, vr10, vr11, vr12, vr13, vr14, vr15, vr16, vr17, vr18, vr19, vr20, vr21, vr22, vr23, vr24, vr25, vr26, vr27, vr28, vr29, vr30, vr31, vr32, vr33, vr34, opS, fpS, extO, okP, pack, nAl, allocA, shId, leaves, fillA, fillR, splice, Nat.reduceLT, Nat.reduceEqDiff, Nat.reduceLeDiff, Nat.reduceAdd, Nat.reduceSub, Nat.reduceMul, Int.reduceBEq, Int.reduceBNe, Int.reduceLT, Int.reduceLE, Int.reduceEq, reduceIte, reduceCtorEq, da, int, boolA]
def sameM (a b : List RunM) : Bool := decide (a = b)
theorem s45 (a b : List RunM) (hl : a.length ≤ 1000000) (H : Heap) : callL ft (.fn (.func 45) [] []) [encR a, encR b] H = some (boolA (sameM a b), H) := by
  refine call_p (as' := [encR a, encR b]) rfl rfl (by simp) ?_
  unfold c45 r45 sameM
  by_cases c1 : a.length = b.length
  · have d1 : ((a.length : Int) != b.length) = false := by simp [c1]
    simp only [↓vp, vq0, vq1, vq2, vq3, vr0, vr1, vr2, vr3, vr4, vr5, vr6, vr7, vr8, vr9, vr10, vr11, vr12, vr13, vr14, vr15, vr16, vr17, vr18, vr19, vr20, vr21, vr22, vr23, vr24, vr25, vr26, vr27, vr28, vr29, vr30, vr31, vr32, vr33, vr34, opS, fpS, extO, okP, pack, nAl, allocA, shId, leaves, fillA, fillR, splice, Nat.reduceLT, Nat.reduceEqDiff, Nat.reduceLeDiff, Nat.reduceAdd, Nat.reduceSub, Nat.reduceMul, Int.reduceBEq, Int.reduceBNe, Int.reduceLT, Int.reduceLE, Int.reduceEq, reduceIte, reduceCtorEq, da, int, boolA, dr, d1]
    rw [← hx_nil (Heap.empty)]
    refine l45 a b hl c1 (fun f' K hm => ?_) (fun f' K hm q4 => ?_) a.length 0 _ _ (by simp) rfl ?_ ?_ ?_
    · unfold c45R1
      rw [decide_eq_true hm]
      simp only [↓vp, vq0, vq1, vq2, vq3, vr0, vr1, vr2, vr3, vr4, vr5, vr6, vr7, vr8, vr9, vr10, vr11, vr12, vr13, vr14, vr15, vr16, vr17, vr18, vr19, vr20, vr21, vr22, vr23, vr24, vr25, vr26, vr27, vr28, vr29, vr30, vr31, vr32, vr33, vr34, opS, fpS, extO, okP, pack, nAl, allocA, shId, leaves, fillA, fillR, splice, Nat.reduceLT, Nat.reduceEqDiff, Nat.reduceLeDiff, Nat.reduceAdd, Nat.reduceSub, Nat.reduceMul, Int.reduceBEq, Int.reduceBNe, Int.reduceLT, Int.reduceLE, Int.reduceEq, reduceIte, reduceCtorEq, da, int, boolA, RetP_go, resT, resC, resN, retV1, retV2, retV3, retV0, frzFZ, takeM, Option.some.injEq]
    · rw [decide_eq_false hm]
      simp only [↓vp, vq0, vq1, vq2, vq3, vr0, vr1, vr2, vr3, vr4, vr5, vr6, vr7, vr8, vr9, vr10, vr11, vr12, vr13, vr14, vr15, vr16, vr17, vr18, vr19, vr20, vr21, vr22, vr23, vr24, vr25, vr26, vr27, vr28, vr29, vr30, vr31, vr32, vr33, vr34, opS, fpS, extO, okP, pack, nAl, allocA, shId, leaves, fillA, fillR, splice, Nat.reduceLT, Nat.reduceEqDiff, Nat.reduceLeDiff, Nat.reduceAdd, Nat.reduceSub, Nat.reduceMul, Int.reduceBEq, Int.reduceBNe, Int.reduceLT, Int.reduceLE, Int.reduceEq, reduceIte, reduceCtorEq, da, int, boolA, RetP_go, resT, resC, resN, retV1, retV2, retV3, retV0, frzFZ, takeM, Option.some.injEq, q4]
    all_goals first | rfl | (simp only [↓vp, vq0, vq1, vq2, vq3, vr0, vr1, vr2, vr3, vr4, vr5, vr6, vr7, vr8, vr9, vr10, vr11, vr12, vr13, vr14, vr15, vr16, vr17, vr18, vr19, vr20, vr21, vr22, vr23, vr24, vr25, vr26, vr27, vr28, vr29, vr30, vr31, vr32, vr33, vr34, opS, fpS, extO, okP, pack, nAl, allocA, shId, leaves, fillA, fillR, splice, Nat.reduceLT, Nat.reduceEqDiff, Nat.reduceLeDiff, Nat.reduceAdd, Nat.reduceSub, Nat.reduceMul, Int.reduceBEq, Int.reduceBNe, Int.reduceLT, Int.reduceLE, Int.reduceEq, reduceIte, reduceCtorEq, da, int, boolA]; done)
  · have d1 : ((a.length : Int) != b.length) = true := by simp; omega
    rw [decide_eq_false (fun e => c1 (by rw [e]))]
    simp only [↓vp, vq0, vq1, vq2, vq3, vr0, vr1, vr2, vr3, vr4, vr5, vr6, vr7, vr8, vr9, vr10, vr11, vr12, vr13, vr14, vr15, vr16, vr17, vr18, vr19, vr20, vr21, vr22, vr23, vr24, vr25, vr26, vr27, vr28, vr29, vr30, vr31, vr32, vr33, vr34, opS, fpS, extO, okP, pack, nAl, allocA, shId, leaves, fillA, fillR, splice, Nat.reduceLT, Nat.reduceEqDiff, Nat.reduceLeDiff, Nat.reduceAdd, Nat.reduceSub, Nat.reduceMul, Int.reduceBEq, Int.reduceBNe, Int.reduceLT, Int.reduceLE, Int.reduceEq, reduceIte, reduceCtorEq, da, int, boolA, RetP_go, resT, resC, resN, retV1, retV2, retV3, retV0, frzFZ, takeM, Option.some.injEq, dr, d1]
end Go.VI

set_option linter.unusedVariables false
set_option linter.unusedSimpArgs false
set_option maxRecDepth 100000
namespace Go.VI
attribute [local congr] AW_congr OW_congr DW_congr NW_congr VW_congr GW_congr PW_congr KW_congr ite_congr' GV_congr CV_congr
/-- The first one of a kind. -/
def idxM (p : RunM → Bool) : Nat → List RunM → Int
  | _, [] => -1
  | i, x :: r => if p x then (i : Int) else idxM p (i + 1) r
theorem idxM_neg (p : RunM → Bool) : ∀ (l : List RunM) (i : Nat), (decide (0 ≤ idxM p i l) = l.any p) ∧ (-1 ≤ idxM p i l ∧ idxM p i l < i + l.length ∨ idxM p i l = -1)
  | [], i => ⟨by simp [idxM], .inr rfl⟩
  | x :: r, i => by
    unfold idxM
    cases e : p x with
    | true => simp [e]; omega
    | false =>
      have h := idxM_neg p r (i + 1)
      simp [e] at h ⊢
      refine ⟨h.1, ?_⟩
      omega
section
variable {T : FT} (h116 : T 116 = some (.go true 19 r116 c116))
theorem l116 (G : AV) (p : RunM → Bool) (l : List RunM) (hl : l.length ≤ 1000000) (hG : ∀ x ∈ l, ∀ {K : Heap} {L : List Blk} {Q : AV → Heap → Prop}, KW T G [.agg (runC x)] (hx K L) Q ↔ Q (boolA (p x)) (hx K L)) {Q : AExit → Env → Heap → Prop}
   (hex : ∀ f', idxM p 0 l = -1 → Q (.exit 0) (mkE 19 f') (hx Heap.empty [])) (hret : ∀ f', f' 4 = int (idxM p 0 l) → Q .ret (mkE 19 f') (hx Heap.empty [])) :
   ∀ (d i : Nat) (f : Nat → AV), i + d = l.length → idxM p 0 l = idxM p i (l.drop i) → f 0 = encR l → f 1 = G → f 7 = int l.length → f 8 = int i →
    AW T (.loop c116L0) (mkE 19 f) (hx Heap.empty []) Q := by
  intro d
  induction d with
  | zero =>
    intro i f hd hc h0 h1 h7 h8
    have g1 : ((i : Int) < l.length) = False := by simp; omega
    rw [AW_loop]
    unfold c116L0
    rw [List.drop_eq_nil_of_le (by omega)] at hc
    simp only [↓vp, vq0, vq1, vq2, vq3, vr0, vr1, vr2, vr3, vr4, vr5, vr6, vr7, vr8, vr9, vr10, vr11, vr12, vr13, vr14, vr15, vr16, vr17, vr18, vr19, vr20, vr21, vr22, vr23, vr24, vr25, vr26, vr27, vr28, vr29, vr30, vr31, vr32, vr33, vr34, opS, fpS, extO, okP, pack, nAl, allocA, shId, leaves, fillA, fillR, splice, Nat.reduceLT, Nat.reduceEqDiff, Nat.reduceLeDiff, Nat.reduceAdd, Nat.reduceSub, Nat.reduceMul, Int.reduceBEq, Int.reduceBNe, Int.reduceLT, Int.reduceLE, Int.reduceEq, reduceIte, reduceCtorEq, da, int, boolA, h7, h8, g1]
    exact hex _ (by rw [hc]; rfl)
  | succ d ih =>
    intro i f hd hc h0 h1 h7 h8
    have g1 : ((i : Int) < l.length) = True := by simp; omega
    have gi : i < l.length := by omega
    have w1 := wrap_succ (show i < 9223372036854775807 by omega)
    have kk := fun K L Q => @hG l[i] (List.getElem_mem gi) K L Q
    simp only [runC, int] at kk
    rw [AW_loop]
    unfold c116L0
    rw [List.drop_eq_getElem_cons gi, idxM] at hc
    cases e : p l[i] with
    | true =>
      rw [e, if_pos rfl] at hc
      simp only [↓vp, vq0, vq1, vq2, vq3, vr0, vr1, vr2, vr3, vr4, vr5, vr6, vr7, vr8, vr9, vr10, vr11, vr12, vr13, vr14, vr15, vr16, vr17, vr18, vr19, vr20, vr21, vr22, vr23, vr24, vr25, vr26, vr27, vr28, vr29, vr30, vr31, vr32, vr33, vr34, opS, fpS, extO, okP, pack, nAl, allocA, shId, leaves, fillA, fillR, splice, Nat.reduceLT, Nat.reduceEqDiff, Nat.reduceLeDiff, Nat.reduceAdd, Nat.reduceSub, Nat.reduceMul, Int.reduceBEq, Int.reduceBNe, Int.reduceLT, Int.reduceLE, Int.reduceEq, reduceIte, reduceCtorEq, da, int, boolA, dr, h0, h1, h7, h8, g1, atR gi, cR gi, runC, kk, e, w1]
      refine hret _ ?_
      simp only [↓vp, vq0, vq1, vq2, vq3, vr0, vr1, vr2, vr3, vr4, vr5, vr6, vr7, vr8, vr9, vr10, vr11, vr12, vr13, vr14, vr15, vr16, vr17, vr18, vr19, vr20, vr21, vr22, vr23, vr24, vr25, vr26, vr27, vr28, vr29, vr30, vr31, vr32, vr33, vr34, opS, fpS, extO, okP, pack, nAl, allocA, shId, leaves, fillA, fillR, splice, Nat.reduceLT, Nat.reduceEqDiff, Nat.reduceLeDiff, Nat.reduceAdd, Nat.reduceSub, Nat.reduceMul, Int.reduceBEq, Int.reduceBNe, Int.reduceLT, Int.reduceLE, Int.reduceEq, reduceIte, reduceCtorEq, da, int, boolA, hc]
    | false =>
      rw [e, if_neg (by simp)] at hc
      simp only [↓vp, vq0, vq1, vq2, vq3, vr0, vr1, vr2, vr3, vr4, vr5, vr6, vr7, vr8, vr9, vr10, vr11, vr12, vr13, vr14, vr15, vr16, vr17, vr18, vr19, vr20, vr21, vr22, vr23, vr24, vr25, vr26, vr27, vr28, vr29, vr30, vr31, vr32, vr33, vr34, opS, fpS, extO, okP, pack, nAl, allocA, shId, leaves, fillA, fillR, splice, Nat.reduceLT, Nat.reduceEqDiff, Nat.reduceLeDiff, Nat.reduceAdd, Nat.reduceSub, Nat.reduceMul, Int.reduceBEq, Int.reduceBNe, Int.reduceLT, Int.reduceLE, Int.reduceEq, reduceIte, reduceCtorEq, da, int, boolA, dr, h0, h1, h7, h8, g1, atR gi, cR gi, runC, kk, e, w1]
      refine ih (i + 1) _ (by omega) hc ?_ ?_ ?_ ?_ <;> simp only [↓vp, vq0, vq1, vq2, vq3, vr0, vr1, vr2, vr3, vr4, vr5, vr6, vr7, vr8, vr9, vr10, vr11, vr12, vr13, vr14, vr15, vr16, vr17, vr18, vr19, vr20, vr21, vr22, vr23, vr24, vr25, vr26, vr27, vr28, vr29, vr30, vr31, vr32, vr33, vr34, opS, fpS, extO, okP, pack, nAl, allocA, shId, leaves, fillA, fillR, splice, Nat.reduceLT, Nat.reduceEqDiff, Nat.reduceLeDiff, Nat.reduceAdd, Nat.reduceSub, Nat.reduceMul, Int.reduceBEq, Int.reduceBNe, Int.reduceLT, Int.reduceLE, Int.reduceEq, reduceIte, reduceCtorEq, da, int, boolA, h0, h1, h7]
include h116 in
theorem s116 (G : AV) (p : RunM → Bool) (l : List RunM) (hl : l.length ≤ 1000000) (hG : ∀ x ∈ l, ∀ {K : Heap} {L : List Blk} {Q : AV → Heap → Prop}, KW T G [.agg (runC x)] (hx K L) Q ↔ Q (boolA (p x)) (hx K L))
   {args : List AV} {H H1 : Heap} (hz : frzCells H args = some ([encR l, G], H1)) : callL T (.fn (.func 116) [] []) args H = some (int (idxM p 0 l), H1) := by
  refine call_p (as' := [encR l, G]) h116 (by simpa using hz) (by simp) ?_
  unfold c116 r116
  simp only [↓vp, vq0, vq1, vq2, vq3, vr0, vr1, vr2, vr3, vr4, vr5, vr6, vr7, vr8, vr9, vr10, vr11, vr12, vr13, vr14, vr15, vr16, vr17, vr18, vr19, vr20, vr21, vr22, vr23, vr24, vr25, vr26, vr27, vr28, vr29, vr30, vr31, vr32, vr33, vr34, opS, fpS, extO, okP, pack, nAl, allocA, shId, leaves, fillA, fillR, splice, Nat.reduceLT, Nat.reduceEqDiff, Nat.reduceLeDiff, Nat.reduceAdd, Nat.reduceSub, Nat.reduceMul, Int.reduceBEq, Int.reduceBNe, Int.reduceLT, Int.reduceLE, Int.reduceEq, reduceIte, reduceCtorEq, da, int, boolA, dr]
  refine l116 G p l hl hG (fun f' hm => ?_) (fun f' h4 => ?_) l.length 0 _ (by simp) rfl ?_ ?_ ?_ ?_
  · unfold c116R1
    simp only [↓vp, vq0, vq1, vq2, vq3, vr0, vr1, vr2, vr3, vr4, vr5, vr6, vr7, vr8, vr9, vr10, vr11, vr12, vr13, vr14, vr15, vr16, vr17, vr18, vr19, vr20, vr21, vr22, vr23, vr24, vr25, vr26, vr27, vr28, vr29, vr30, vr31, vr32, vr33, vr34, opS, fpS, extO, okP, pack, nAl, allocA, shId, leaves, fillA, fillR, splice, Nat.reduceLT, Nat.reduceEqDiff, Nat.reduceLeDiff, Nat.reduceAdd, Nat.reduceSub, Nat.reduceMul, Int.reduceBEq, Int.reduceBNe, Int.reduceLT, Int.reduceLE, Int.reduceEq, reduceIte, reduceCtorEq, da, int, boolA, RetP_go, resT, resC, resN, retV1, retV2, retV3, retV0, frzFZ, takeM, Option.some.injEq, hm]
  · simp only [↓vp, vq0, vq1, vq2, vq3, vr0, vr1, vr2, vr3, vr4, vr5, vr6, vr7, vr8, vr9, vr10, vr11, vr12, vr13, vr14, vr15, vr16, vr17, vr18, vr19, vr20, vr21, vr22, vr23, vr24, vr25, vr26, vr27, vr28, vr29, vr30, vr31, vr32, vr33, vr34, opS, fpS, extO, okP, pack, nAl, allocA, shId, leaves, fillA, fillR, splice, Nat.reduceLT, Nat.reduceEqDiff, Nat.reduceLeDiff, Nat.reduceAdd, Nat.reduceSub, Nat.reduceMul, Int.reduceBEq, Int.reduceBNe, Int.reduceLT, Int.reduceLE, Int.reduceEq, reduceIte, reduceCtorEq, da, int, boolA, RetP_go, resT, resC, resN, retV1, retV2, retV3, retV0, frzFZ, takeM, Option.some.injEq, h4]
  all_goals first | rfl | (simp only [↓vp, vq0, vq1, vq2, vq3, vr0, vr1, vr2, vr3, vr4, vr5, vr6, vr7, vr8, vr9, vr10, vr11, vr12, vr13, vr14, vr15, vr16, vr17, vr18, vr19, vr20, vr21, vr22, vr23, vr24, vr25, vr26, vr27, vr28, vr29, vr30, vr31, vr32, vr33, vr34, opS, fpS, extO, okP, pack, nAl, allocA, shId, leaves, fillA, fillR, splice, Nat.reduceLT, Nat.reduceEqDiff, Nat.reduceLeDiff, Nat.reduceAdd, Nat.reduceSub, Nat.reduceMul, Int.reduceBEq, Int.reduceBNe, Int.reduceLT, Int.reduceLE, Int.reduceEq, reduceIte, reduceCtorEq, da, int, boolA]; done)
include h116 in
theorem s114 (h114 : T 114 = some (.go true 9 r114 c114)) (l : List RunM) (hl : l.length ≤ 1000000) (G : AV) (hfz : ∀ H, frzCells H [encR l, G] = some ([encR l, G], H)) (p : RunM → Bool) (hG : ∀ x ∈ l, ∀ {K : Heap} {L : List Blk} {Q : AV → Heap → Prop}, KW T G [.agg (runC x)] (hx K L) Q ↔ Q (boolA (p x)) (hx K L))
   {args : List AV} {H H1 : Heap} (hz : frzCells H args = some ([encR l, G], H1)) : callL T (.fn (.func 114) [] []) args H = some (boolA (l.any p), H1) := by
  refine call_p (as' := [encR l, G]) h114 (by simpa using hz) (by simp) ?_
  unfold c114 r114
  have kk := fun H Q => @KW_of T _ _ _ Q _ _ (s116 h116 G p l hl hG (hfz H))
  simp only [int] at kk
  have e := (idxM_neg p l 0).1
  rw [← e]
  simp only [↓vp, vq0, vq1, vq2, vq3, vr0, vr1, vr2, vr3, vr4, vr5, vr6, vr7, vr8, vr9, vr10, vr11, vr12, vr13, vr14, vr15, vr16, vr17, vr18, vr19, vr20, vr21, vr22, vr23, vr24, vr25, vr26, vr27, vr28, vr29, vr30, vr31, vr32, vr33, vr34, opS, fpS, extO, okP, pack, nAl, allocA, shId, leaves, fillA, fillR, splice, Nat.reduceLT, Nat.reduceEqDiff, Nat.reduceLeDiff, Nat.reduceAdd, Nat.reduceSub, Nat.reduceMul, Int.reduceBEq, Int.reduceBNe, Int.reduceLT, Int.reduceLE, Int.reduceEq, reduceIte, reduceCtorEq, da, int, boolA, RetP_go, resT, resC, resN, retV1, retV2, retV3, retV0, frzFZ, takeM, Option.some.injEq, kk]
end
def endW (x : RunM) : Int := IntKind.i64.wrap (x.1 + x.2)
theorem endW_may {x : RunM} (h : mayM x = true) : endW x = endM x := by
  unfold endW
  exact wrap_i64 (by have := mayM_iff.1 h; omega)
theorem s107w (x : RunM) (H : Heap) : callL ft (.fn (.func 107) [] []) [.agg (runC x)] H = some (int (endW x), H) := by
  refine call_p (as' := [.agg (runC x)]) rfl rfl (by simp) ?_
  unfold c107 r107 endW
  simp only [↓vp, vq0, vq1, vq2, vq3, vr0, vr1, vr2, vr3, vr4, vr5, vr6, vr7, vr8, vr9, vr10, vr11, vr12, vr13, vr14, vr15, vr16, vr17, vr18, vr19, vr20, vr21, vr22, vr23, vr24, vr25, vr26, vr27, vr28, vr29, vr30, vr31, vr32, vr33, vr34, opS, fpS, extO, okP, pack, nAl, allocA, shId, leaves, fillA, fillR, splice, Nat.reduceLT, Nat.reduceEqDiff, Nat.reduceLeDiff, Nat.reduceAdd, Nat.reduceSub, Nat.reduceMul, Int.reduceBEq, Int.reduceBNe, Int.reduceLT, Int.reduceLE, Int.reduceEq, reduceIte, reduceCtorEq, da, int, boolA, RetP_go, resT, resC, resN, retV1, retV2, retV3, retV0, frzFZ, takeM, Option.some.injEq, dr, runC]
theorem k107w {x : RunM} {K : Heap} {L : List Blk} {Q : AV → Heap → Prop} : KW ft (.fn (.func 107) [] []) [.agg (runC x)] (hx K L) Q ↔ Q (int (endW x)) (hx K L) := KW_of (s107w x _)
def overF (x : RunM) : AV := .fn (.func 158) [] [.pim [runC x] 0 0]
def overB (x y : RunM) : Bool := decide (y.1 < endW x) && decide (x.1 < endW y)
theorem s158 (x y : RunM) (H : Heap) : callL ft (overF x) [.agg (runC y)] H = some (boolA (overB x y), H) := by
  refine call_p (as' := [.agg (runC y), .pim [runC x] 0 0]) rfl rfl (by simp) ?_
  unfold c158 r158 overB
  have kx := fun K L Q => @k107w x K L Q
  have ky := fun K L Q => @k107w y K L Q
  have px := p107 x
  have py := p107 y
  simp only [runC, int] at kx ky px py
  have cp : ∀ H, cellsAt H (.pim [[.sc (.int .i64 x.1), .sc (.int .i64 x.2)]] 0 0) 2 = some [.sc (.int .i64 x.1), .sc (.int .i64 x.2)] := fun _ => rfl
  have cq : ∀ H, cellsAt H (.pim [[.sc (.int .i64 x.1), .sc (.int .i64 x.2)]] 0 0) 1 = some [.sc (.int .i64 x.1)] := fun _ => rfl
  by_cases e : y.1 < endW x
  · simp only [↓vp, vq0, vq1, vq2, vq3, vr0, vr1, vr2, vr3, vr4, vr5, vr6, vr7, vr8, vr9, vr10, vr11, vr12, vr13, vr14, vr15, vr16, vr17, vr18, vr19, vr20, vr21, vr22, vr23, vr24, vr25, vr26, vr27, vr28, vr29, vr30, vr31, vr32, vr33, vr34, opS, fpS, extO, okP, pack, nAl, allocA, shId, leaves, fillA, fillR, splice, Nat.reduceLT, Nat.reduceEqDiff, Nat.reduceLeDiff, Nat.reduceAdd, Nat.reduceSub, Nat.reduceMul, Int.reduceBEq, Int.reduceBNe, Int.reduceLT, Int.reduceLE, Int.reduceEq, reduceIte, reduceCtorEq, da, int, boolA, RetP_go, resT, resC, resN, retV1, retV2, retV3, retV0, frzFZ, takeM, Option.some.injEq, dr, runC, kx, ky, px, py, cp, cq, e]
  · have ef : (decide (y.1 < endW x) && decide (x.1 < endW y)) = false := by rw [decide_eq_false e]; rfl
    rw [ef]
    simp only [↓vp, vq0, vq1, vq2, vq3, vr0, vr1, vr2, vr3, vr4, vr5, vr6, vr7, vr8, vr9, vr10, vr11, vr12, vr13, vr14, vr15, vr16, vr17, vr18, vr19, vr20, vr21, vr22, vr23, vr24, vr25, vr26, vr27, vr28, vr29, vr30, vr31, vr32, vr33, vr34, opS, fpS, extO, okP, pack, nAl, allocA, shId, leaves, fillA, fillR, splice, Nat.reduceLT, Nat.reduceEqDiff, Nat.reduceLeDiff, Nat.reduceAdd, Nat.reduceSub, Nat.reduceMul, Int.reduceBEq, Int.reduceBNe, Int.reduceLT, Int.reduceLE, Int.reduceEq, reduceIte, reduceCtorEq, da, int, boolA, RetP_go, resT, resC, resN, retV1, retV2, retV3, retV0, frzFZ, takeM, Option.some.injEq, dr, runC, kx, ky, px, py, cp, cq, e]
/-- The table by which over is reckoned. -/
noncomputable def ftO : FT
  | 109 => some (.go true 8 r109 c109)
  | k => ft k
theorem ftO_sub : Sub ft ftO := by
  intro k d h
  unfold ftO
  split
  · cases h
  · exact h
def overI (l : List RunM) (x : RunM) : Int := idxM (overB x) 0 l
theorem s109 (l : List RunM) (hl : l.length ≤ 1000000) (x : RunM) (H : Heap) : callL ftO (.fn (.func 109) [] []) [encR l, .agg (runC x)] H = some (int (overI l x), H) := by
  refine call_p (as' := [encR l, .agg (runC x)]) rfl rfl (by simp) ?_
  unfold c109 r109 overI
  have hz : frzCells (hx Heap.empty [.box false (runC x)]) [encR l, .fn (.func 158) [] [.ptr 0 0 0]] = some ([encR l, overF x], hx Heap.empty [.box true (runC x)]) := rfl
  have k2 := fun Q => @KW_of ftO _ _ _ Q _ _ (s116 (T := ftO) rfl (overF x) (overB x) l hl (fun y _ K L Q => KW_of (callL_sub ftO_sub (s158 x y _))) hz)
  simp only [runC, int] at k2
  simp only [↓vp, vq0, vq1, vq2, vq3, vr0, vr1, vr2, vr3, vr4, vr5, vr6, vr7, vr8, vr9, vr10, vr11, vr12, vr13, vr14, vr15, vr16, vr17, vr18, vr19, vr20, vr21, vr22, vr23, vr24, vr25, vr26, vr27, vr28, vr29, vr30, vr31, vr32, vr33, vr34, opS, fpS, extO, okP, pack, nAl, allocA, shId, leaves, fillA, fillR, splice, Nat.reduceLT, Nat.reduceEqDiff, Nat.reduceLeDiff, Nat.reduceAdd, Nat.reduceSub, Nat.reduceMul, Int.reduceBEq, Int.reduceBNe, Int.reduceLT, Int.reduceLE, Int.reduceEq, reduceIte, reduceCtorEq, da, int, boolA, RetP_go, resT, resC, resN, retV1, retV2, retV3, retV0, frzFZ, takeM, Option.some.injEq, dr, runC]
  rw [k2]
  simp only [↓vp, vq0, vq1, vq2, vq3, vr0, vr1, vr2, vr3, vr4, vr5, vr6, vr7, vr8, vr9, vr10, vr11, vr12, vr13, vr14, vr15, vr16, vr17, vr18, vr19, vr20, vr21, vr22, vr23, vr24, vr25, vr26, vr27, vr28, vr29, vr30, vr31, vr32, vr33, vr34, opS, fpS, extO, okP, pack, nAl, allocA, shId, leaves, fillA, fillR, splice, Nat.reduceLT, Nat.reduceEqDiff, Nat.reduceLeDiff, Nat.reduceAdd, Nat.reduceSub, Nat.reduceMul, Int.reduceBEq, Int.reduceBNe, Int.reduceLT, Int.reduceLE, Int.reduceEq, reduceIte, reduceCtorEq, da, int, boolA, RetP_go, resT, resC, resN, retV1, retV2, retV3, retV0, frzFZ, takeM, Option.some.injEq, dr, runC]
/-- over, of a row that may be written again. -/
noncomputable def overP : List AV → Heap → Option (AV × Heap) := roP (goP ftO 109)
theorem overP_at {l : List RunM} (hl : l.length ≤ 1000000) (x : RunM) {S : AV} {H H1 : Heap} (hz : frzCells H [S, .agg (runC x)] = some ([encR l, .agg (runC x)], H1)) : overP [S, .agg (runC x)] H = some (int (overI l x), H) := by
  unfold overP roP goP
  have hc : closedL [encR l, .agg (runC x)] = true := rfl
  rw [hz]
  simp only [Option.bind_some, hc, if_true, s109 l hl x, Option.map_some, int]
/-- The base of the laws' tables. -/
noncomputable def ftM : FT
  | 109 => some (.prim overP)
  | 36 => some (.go true 111 r36 c36)
  | k => ft k
theorem ftM_sub : Sub ft ftM := by
  intro k d h
  unfold ftM
  split
  · cases h
  · cases h
  · exact h
theorem kM_of {f : AV} {args : List AV} {K : AV → Heap → Prop} {v : AV} {H H' : Heap} (h : callL ft f args H = some (v, H')) : KW ftM f args H K ↔ K v H' := KW_of (callL_sub ftM_sub h)
theorem k109 {l : List RunM} (hl : l.length ≤ 1000000) (x : RunM) {S : AV} {H H1 : Heap} (hz : frzCells H [S, .agg (runC x)] = some ([encR l, .agg (runC x)], H1)) {Q : AV → Heap → Prop} : KW ftM (.fn (.func 109) [] []) [S, .agg (runC x)] H Q ↔ Q (int (overI l x)) H :=
  k_prim rfl (overP_at hl x hz) (Nat.le_refl _)
theorem k109l {l : List RunM} (hl : l.length ≤ 1000000) {x : RunM} {K : Heap} {L : List Blk} {Q : AV → Heap → Prop} : KW ftM (.fn (.func 109) [] []) [encR l, .agg (runC x)] (hx K L) Q ↔ Q (int (overI l x)) (hx K L) := k109 hl x rfl
def hasM (l : List RunM) (p : Int) : Bool := mayM (p, 1) && decide (0 ≤ overI (cleanM l) (p, 1))
theorem s44 (l : List RunM) (hl : l.length ≤ 1000000) (p : Int) (H : Heap) : callL ftM (.fn (.func 44) [] []) [encR l, int p] H = some (boolA (hasM l p), H) := by
  refine call_p (as' := [encR l, int p]) rfl rfl (by simp) ?_
  unfold c44 r44 hasM
  have hl2 := cleanM_len l
  have km := fun K L Q => @kM_of _ _ Q _ _ _ (s106 (p, 1) (hx K L))
  have kc := fun K L Q => @kM_of _ _ Q _ _ _ (s105 l hl (hx K L))
  have ko := fun K L Q => @k109l (cleanM l) (by omega) (p, 1) K L Q
  have pc : pureV ftM (.fn (.func 105) [] []) [encR l] = some (false, []) := rfl
  simp only [runC, int] at km ko
  cases e : mayM (p, 1) with
  | true =>
    rw [e] at km
    simp only [↓vp, vq0, vq1, vq2, vq3, vr0, vr1, vr2, vr3, vr4, vr5, vr6, vr7, vr8, vr9, vr10, vr11, vr12, vr13, vr14, vr15, vr16, vr17, vr18, vr19, vr20, vr21, vr22, vr23, vr24, vr25, vr26, vr27, vr28, vr29, vr30, vr31, vr32, vr33, vr34, opS, fpS, extO, okP, pack, nAl, allocA, shId, leaves, fillA, fillR, splice, Nat.reduceLT, Nat.reduceEqDiff, Nat.reduceLeDiff, Nat.reduceAdd, Nat.reduceSub, Nat.reduceMul, Int.reduceBEq, Int.reduceBNe, Int.reduceLT, Int.reduceLE, Int.reduceEq, reduceIte, reduceCtorEq, da, int, boolA, RetP_go, resT, resC, resN, retV1, retV2, retV3, retV0, frzFZ, takeM, Option.some.injEq, dr, km, kc, ko, pc]
  | false =>
    rw [e] at km
    simp only [↓vp, vq0, vq1, vq2, vq3, vr0, vr1, vr2, vr3, vr4, vr5, vr6, vr7, vr8, vr9, vr10, vr11, vr12, vr13, vr14, vr15, vr16, vr17, vr18, vr19, vr20, vr21, vr22, vr23, vr24, vr25, vr26, vr27, vr28, vr29, vr30, vr31, vr32, vr33, vr34, opS, fpS, extO, okP, pack, nAl, allocA, shId, leaves, fillA, fillR, splice, Nat.reduceLT, Nat.reduceEqDiff, Nat.reduceLeDiff, Nat.reduceAdd, Nat.reduceSub, Nat.reduceMul, Int.reduceBEq, Int.reduceBNe, Int.reduceLT, Int.reduceLE, Int.reduceEq, reduceIte, reduceCtorEq, da, int, boolA, RetP_go, resT, resC, resN, retV1, retV2, retV3, retV0, frzFZ, takeM, Option.some.injEq, dr, km, kc, ko, pc, Bool.false_and]
theorem k44 {l : List RunM} (hl : l.length ≤ 1000000) {p : Int} {K : Heap} {L : List Blk} {Q : AV → Heap → Prop} : KW ftM (.fn (.func 44) [] []) [encR l, int p] (hx K L) Q ↔ Q (boolA (hasM l p)) (hx K L) := KW_of (s44 l hl p _)
end Go.VI

set_option linter.unusedVariables false
set_option linter.unusedSimpArgs false
set_option maxRecDepth 100000
namespace Go.VI
attribute [local congr] AW_congr OW_congr DW_congr NW_congr VW_congr GW_congr PW_congr KW_congr ite_congr' GV_congr CV_congr
theorem cells_row {H : Heap} {id i off n : Nat} {fz : Bool} {sz : Nat} {rs : List (List AV)} {r : List AV} (hg : H.get id = some (.row fz sz rs)) (hr : rs[i]? = some r) : cellsAt H (.ptr id i off) n = if off + n ≤ r.length then some ((r.drop off).take n) else none := by
  simp only [cellsAt, hg, hr]
theorem ia_row {H : Heap} {id len sz i : Nat} {fz : Bool} {rs : List (List AV)} (hg : H.get id = some (.row fz sz rs)) (hi : i < len) : iaddrA H none sz (.sl id 0 len) (i : Int) = some (.ptr id i 0) := by
  have hr : rowSz H id = some sz := by unfold rowSz; rw [hg]
  show (if 0 ≤ (i : Int) ∧ (i : Int) < (len : Int) ∧ rowSz H id = some sz then some (AV.ptr id (0 + (i : Int).toNat) 0) else none) = _
  rw [if_pos ⟨by omega, by omega, hr⟩]
  simp
/-- Rows of a list of runs. -/
theorem ia_rr {H : Heap} {id i : Nat} {fz : Bool} {l : List RunM} (hg : H.get id = some (.row fz 2 (l.map runC))) (hi : i < l.length) : iaddrA H none 2 (.sl id 0 l.length) (i : Int) = some (.ptr id i 0) := ia_row hg hi
theorem c_rr {H : Heap} {id i off n : Nat} {fz : Bool} {l : List RunM} (hg : H.get id = some (.row fz 2 (l.map runC))) (hi : i < l.length) : cellsAt H (.ptr id i off) n = if off + n ≤ 2 then some (((runC l[i]).drop off).take n) else none := by
  rw [cells_row hg (r := runC l[i]) (by rw [List.getElem?_map, List.getElem?_eq_getElem hi]; rfl)]
  rfl
theorem len_rep {K H : Heap} {sz : Nat} {S : AV} {rows : List (List AV)} (h : Rep K sz S rows) : lenV H 0 S = some (.sc (.int .i64 (rows.length : Int)), H) := by
  rcases h with ⟨rfl, rfl⟩ | ⟨id, rfl, _⟩ <;> rfl
def mxM (a b : Int) : Int := if b > a then b else a
def joinS (acc : List RunM) (x : RunM) : List RunM :=
  match acc.getLast? with
  | none => [x]
  | some y => if x.1 > endM y then acc ++ [x] else acc.set (acc.length - 1) (y.1, mxM (endM y) (endM x) - y.1)
theorem joinS_nil (x : RunM) : joinS [] x = [] ++ [x] := rfl
theorem joinS_some {acc : List RunM} {x : RunM} {m : Nat} (h : acc.length = m + 1) : joinS acc x = if x.1 > endM (acc[m]'(by omega)) then acc ++ [x] else acc.set m ((acc[m]'(by omega)).1, mxM (endM (acc[m]'(by omega))) (endM x) - (acc[m]'(by omega)).1) := by
  have e : acc.length - 1 = m := by omega
  unfold joinS
  rw [List.getLast?_eq_getElem?, e, List.getElem?_eq_getElem (by omega)]
theorem joinS_may {acc : List RunM} {x : RunM} (h : ∀ y ∈ acc, mayM y = true) (hx : mayM x = true) : ∀ y ∈ joinS acc x, mayM y = true := by
  intro z hz
  rcases Nat.eq_zero_or_pos acc.length with h0 | h0
  · obtain rfl : acc = [] := List.eq_nil_of_length_eq_zero h0
    rw [joinS_nil] at hz
    simp at hz
    rw [hz]; exact hx
  · obtain ⟨m, hm⟩ : ∃ m, acc.length = m + 1 := ⟨acc.length - 1, by omega⟩
    rw [joinS_some hm] at hz
    split at hz
    · rcases List.mem_append.1 hz with hz | hz
      · exact h z hz
      · simp at hz
        rw [hz]; exact hx
    · rcases List.mem_or_eq_of_mem_set hz with hz | rfl
      · exact h z hz
      · have h1 := mayM_iff.1 (h _ (List.getElem_mem (show m < acc.length by omega)))
        have h2 := mayM_iff.1 hx
        rw [mayM_iff]
        unfold mxM endM
        split <;> simp only <;> omega
theorem joinS_len (acc : List RunM) (x : RunM) : (joinS acc x).length ≤ acc.length + 1 := by
  rcases Nat.eq_zero_or_pos acc.length with h0 | h0
  · obtain rfl : acc = [] := List.eq_nil_of_length_eq_zero h0
    simp [joinS_nil]
  · obtain ⟨m, hm⟩ : ∃ m, acc.length = m + 1 := ⟨acc.length - 1, by omega⟩
    rw [joinS_some hm]
    split <;> simp
theorem fold_take {s : List RunM} {i : Nat} (h : i < s.length) : (s.take (i + 1)).foldl joinS [] = joinS ((s.take i).foldl joinS []) s[i] := by
  rw [List.take_succ_eq_append_getElem h, List.foldl_append]
  rfl
theorem fold_may {s : List RunM} (h : ∀ x ∈ s, mayM x = true) : ∀ (a : List RunM), (∀ x ∈ a, mayM x = true) → (∀ x ∈ s.foldl joinS a, mayM x = true) ∧ (s.foldl joinS a).length ≤ a.length + s.length := by
  induction s with
  | nil => exact fun a ha => ⟨ha, by simp⟩
  | cons y s ih =>
    intro a ha
    have := ih (fun x hx => h x (by simp [hx])) (joinS a y) (joinS_may ha (h y (by simp)))
    have hl := joinS_len a y
    simp only [List.foldl_cons, List.length_cons]
    exact ⟨this.1, by omega⟩
theorem kill_keep {B : Nat} {K : Heap} {sz : Nat} {S : AV} {rows : List (List AV)} (h : RepB B K sz S rows) {j : Nat} {b : Blk} (hj : K.get j = some b) (hlt : j < B := by omega) (L : List Blk := []) : (kill K S).get j = some b := by
  rcases h with ⟨rfl, _⟩ | ⟨id, hb, rfl, _⟩
  · exact hj
  · show (K.set id .dead).get j = _
    rw [Heap.get_set_ne _ (by omega), hj]
theorem l110 (s : List RunM) (hs : s.length ≤ 1000000) (hm : ∀ x ∈ s, mayM x = true) (o : Nat) {Q : AExit → Env → Heap → Prop}
   (hex : ∀ f' K S, Rep K 2 S ((s.foldl joinS []).map runC) → f' 4 = S → Q (.exit 0) (mkE 57 f') (hx K [])) :
   ∀ (d i : Nat) (S : AV) (K : Heap) (f : Nat → AV), i + d = s.length → K.get o = some (.row false 2 (s.map runC)) → RepB (o + 1) K 2 S (((s.take i).foldl joinS []).map runC) → f 4 = S → f 12 = .sl o 0 s.length → f 13 = int s.length → f 14 = int i →
    AW ft (.loop c110L0) (mkE 57 f) (hx K []) Q := by
  intro d
  induction d with
  | zero =>
    intro i S K f hd ho hr h4 h12 h13 h14
    have g : ((i : Int) < s.length) = False := by simp; omega
    rw [AW_loop]
    unfold c110L0
    rw [List.take_of_length_le (by omega)] at hr
    simp only [↓vp, vq0, vq1, vq2, vq3, vr0, vr1, vr2, vr3, vr4, vr5, vr6, vr7, vr8, vr9, vr10, vr11, vr12, vr13, vr14, vr15, vr16, vr17, vr18, vr19, vr20, vr21, vr22, vr23, vr24, vr25, vr26, vr27, vr28, vr29, vr30, vr31, vr32, vr33, vr34, opS, fpS, extO, okP, pack, nAl, allocA, shId, leaves, fillA, fillR, splice, Nat.reduceLT, Nat.reduceEqDiff, Nat.reduceLeDiff, Nat.reduceAdd, Nat.reduceSub, Nat.reduceMul, Int.reduceBEq, Int.reduceBNe, Int.reduceLT, Int.reduceLE, Int.reduceEq, reduceIte, reduceCtorEq, da, int, boolA, h13, h14, g]
    refine hex _ K S hr.rep ?_
    simp only [↓vp, vq0, vq1, vq2, vq3, vr0, vr1, vr2, vr3, vr4, vr5, vr6, vr7, vr8, vr9, vr10, vr11, vr12, vr13, vr14, vr15, vr16, vr17, vr18, vr19, vr20, vr21, vr22, vr23, vr24, vr25, vr26, vr27, vr28, vr29, vr30, vr31, vr32, vr33, vr34, opS, fpS, extO, okP, pack, nAl, allocA, shId, leaves, fillA, fillR, splice, Nat.reduceLT, Nat.reduceEqDiff, Nat.reduceLeDiff, Nat.reduceAdd, Nat.reduceSub, Nat.reduceMul, Int.reduceBEq, Int.reduceBNe, Int.reduceLT, Int.reduceLE, Int.reduceEq, reduceIte, reduceCtorEq, da, int, boolA, h4]
  | succ d ih =>
    intro i S K f hd ho hr h4 h12 h13 h14
    have g1 : ((i : Int) < s.length) = True := by simp; omega
    have gi : i < s.length := by omega
    have w1 := wrap_succ (show i < 9223372036854775807 by omega)
    have hxm := hm s[i] (List.getElem_mem gi)
    obtain ⟨hfm, hfl⟩ := fold_may (s := s.take i) (fun x hx => hm x (List.mem_of_mem_take hx)) [] (by simp)
    have ht := fold_take gi
    generalize ha : (s.take i).foldl joinS [] = acc at hr hfm hfl ht
    have hal : acc.length ≤ 1000000 := by simp at hfl; omega
    have lo := Heap.get_lt ho
    have ia := fun L => ia_rr (H := hx K L) (get_old ho L) gi
    have ca := fun L off n => c_rr (H := hx K L) (off := off) (n := n) (get_old ho L) gi
    have ln := fun H => len_rep (H := H) hr.rep
    have ap := fun nid L => appA_rep (nid := nid) (bytes := 16) hr.rep (xs := [runC s[i]]) (by simp) rfl (by simp; omega) L
    rw [List.length_map] at ln ap
    simp only [runC, int, List.length_singleton] at ap
    rcases Nat.eq_zero_or_pos acc.length with h0 | h0
    · have g2 : (IntKind.i64.wrap ((acc.length : Int) - 1) < 0) = True := eq_true (by rw [wrap_i64 (by omega)]; omega)
      rw [AW_loop]
      unfold c110L0
      simp only [↓vp, vq0, vq1, vq2, vq3, vr0, vr1, vr2, vr3, vr4, vr5, vr6, vr7, vr8, vr9, vr10, vr11, vr12, vr13, vr14, vr15, vr16, vr17, vr18, vr19, vr20, vr21, vr22, vr23, vr24, vr25, vr26, vr27, vr28, vr29, vr30, vr31, vr32, vr33, vr34, opS, fpS, extO, okP, pack, nAl, allocA, shId, leaves, fillA, fillR, splice, Nat.reduceLT, Nat.reduceEqDiff, Nat.reduceLeDiff, Nat.reduceAdd, Nat.reduceSub, Nat.reduceMul, Int.reduceBEq, Int.reduceBNe, Int.reduceLT, Int.reduceLE, Int.reduceEq, reduceIte, reduceCtorEq, da, int, boolA, dr, h4, h12, h13, h14, g1, ia, ca, runC, ln, g2, ap, kill_next, w1]
      rw [← hx_nil (hx _ _)]
      obtain rfl : acc = [] := List.eq_nil_of_length_eq_zero h0
      rw [joinS_nil] at ht
      refine ih (i + 1) (.sl (K.next + 2) 0 1) _ _ (by omega) ?_ (.inr ⟨K.next + 2, by omega, ?_, ?_⟩) ?_ ?_ ?_ ?_
      · exact get_old (kill_keep hr ho) _
      · rw [ht]
        rfl
      · rw [ht]
        simp only [↓vp, vq0, vq1, vq2, vq3, vr0, vr1, vr2, vr3, vr4, vr5, vr6, vr7, vr8, vr9, vr10, vr11, vr12, vr13, vr14, vr15, vr16, vr17, vr18, vr19, vr20, vr21, vr22, vr23, vr24, vr25, vr26, vr27, vr28, vr29, vr30, vr31, vr32, vr33, vr34, opS, fpS, extO, okP, pack, nAl, allocA, shId, leaves, fillA, fillR, splice, Nat.reduceLT, Nat.reduceEqDiff, Nat.reduceLeDiff, Nat.reduceAdd, Nat.reduceSub, Nat.reduceMul, Int.reduceBEq, Int.reduceBNe, Int.reduceLT, Int.reduceLE, Int.reduceEq, reduceIte, reduceCtorEq, kill_next]
        rfl
      all_goals simp only [↓vp, vq0, vq1, vq2, vq3, vr0, vr1, vr2, vr3, vr4, vr5, vr6, vr7, vr8, vr9, vr10, vr11, vr12, vr13, vr14, vr15, vr16, vr17, vr18, vr19, vr20, vr21, vr22, vr23, vr24, vr25, vr26, vr27, vr28, vr29, vr30, vr31, vr32, vr33, vr34, opS, fpS, extO, okP, pack, nAl, allocA, shId, leaves, fillA, fillR, splice, Nat.reduceLT, Nat.reduceEqDiff, Nat.reduceLeDiff, Nat.reduceAdd, Nat.reduceSub, Nat.reduceMul, Int.reduceBEq, Int.reduceBNe, Int.reduceLT, Int.reduceLE, Int.reduceEq, reduceIte, reduceCtorEq, da, int, boolA, h12, h13]
    · obtain ⟨m, hm1⟩ : ∃ m, acc.length = m + 1 := ⟨acc.length - 1, by omega⟩
      have gm : m < acc.length := by omega
      obtain ⟨id, hid, hS, hg⟩ : ∃ id, o + 1 ≤ id ∧ S = .sl id 0 acc.length ∧ K.get id = some (.row false 2 (acc.map runC)) := by
        rcases hr with ⟨_, h⟩ | ⟨id, h1, h2, h3⟩
        · rw [List.map_eq_nil_iff] at h
          rw [h] at h0
          simp at h0
        · rw [List.length_map] at h2
          exact ⟨id, h1, h2, h3⟩
      have lid := Heap.get_lt hg
      have e1 : IntKind.i64.wrap ((acc.length : Int) - 1) = (m : Int) := by rw [wrap_i64 (by omega)]; omega
      have g2 : ((m : Int) < 0) = False := eq_false (by omega)
      have ib : ∀ L, iaddrA (hx K L) none 2 S (m : Int) = some (.ptr id m 0) := fun L => by rw [hS]; exact ia_rr (H := hx K L) (get_old hg L) gm
      have cb := fun L off n => c_rr (H := hx K L) (off := off) (n := n) (get_old hg L) gm
      have hym := hfm acc[m] (List.getElem_mem gm)
      have by1 := mayM_iff.1 hym
      have bx1 := mayM_iff.1 hxm
      have ke := fun K L Q => @k107 acc[m] (may_end hym) K L Q
      have kx := fun K L Q => @k107 s[i] (may_end hxm) K L Q
      have pe := p107 acc[m]
      have px := p107 s[i]
      simp only [runC, int] at ke kx pe px
      have hj := joinS_some (x := s[i]) hm1
      rw [AW_loop]
      unfold c110L0
      by_cases c1 : s[i].1 > endM acc[m]
      · rw [if_pos c1] at hj
        simp only [↓vp, vq0, vq1, vq2, vq3, vr0, vr1, vr2, vr3, vr4, vr5, vr6, vr7, vr8, vr9, vr10, vr11, vr12, vr13, vr14, vr15, vr16, vr17, vr18, vr19, vr20, vr21, vr22, vr23, vr24, vr25, vr26, vr27, vr28, vr29, vr30, vr31, vr32, vr33, vr34, opS, fpS, extO, okP, pack, nAl, allocA, shId, leaves, fillA, fillR, splice, Nat.reduceLT, Nat.reduceEqDiff, Nat.reduceLeDiff, Nat.reduceAdd, Nat.reduceSub, Nat.reduceMul, Int.reduceBEq, Int.reduceBNe, Int.reduceLT, Int.reduceLE, Int.reduceEq, reduceIte, reduceCtorEq, da, int, boolA, dr, h4, h12, h13, h14, g1, ia, ca, runC, ln, e1, g2, ib, cb, ke, pe, eq_true c1, ap, kill_next, w1]
        rw [← hx_nil (hx _ _)]
        refine ih (i + 1) (.sl (K.next + 2) 0 (acc.length + 1)) _ _ (by omega) ?_ (.inr ⟨K.next + 2, by omega, ?_, ?_⟩) ?_ ?_ ?_ ?_
        · exact get_old (kill_keep hr ho) _
        · rw [ht, hj]
          simp
        · rw [ht, hj]
          simp only [↓vp, vq0, vq1, vq2, vq3, vr0, vr1, vr2, vr3, vr4, vr5, vr6, vr7, vr8, vr9, vr10, vr11, vr12, vr13, vr14, vr15, vr16, vr17, vr18, vr19, vr20, vr21, vr22, vr23, vr24, vr25, vr26, vr27, vr28, vr29, vr30, vr31, vr32, vr33, vr34, opS, fpS, extO, okP, pack, nAl, allocA, shId, leaves, fillA, fillR, splice, Nat.reduceLT, Nat.reduceEqDiff, Nat.reduceLeDiff, Nat.reduceAdd, Nat.reduceSub, Nat.reduceMul, Int.reduceBEq, Int.reduceBNe, Int.reduceLT, Int.reduceLE, Int.reduceEq, reduceIte, reduceCtorEq, kill_next, List.map_append]
          rfl
        all_goals simp only [↓vp, vq0, vq1, vq2, vq3, vr0, vr1, vr2, vr3, vr4, vr5, vr6, vr7, vr8, vr9, vr10, vr11, vr12, vr13, vr14, vr15, vr16, vr17, vr18, vr19, vr20, vr21, vr22, vr23, vr24, vr25, vr26, vr27, vr28, vr29, vr30, vr31, vr32, vr33, vr34, opS, fpS, extO, okP, pack, nAl, allocA, shId, leaves, fillA, fillR, splice, Nat.reduceLT, Nat.reduceEqDiff, Nat.reduceLeDiff, Nat.reduceAdd, Nat.reduceSub, Nat.reduceMul, Int.reduceBEq, Int.reduceBNe, Int.reduceLT, Int.reduceLE, Int.reduceEq, reduceIte, reduceCtorEq, da, int, boolA, h12, h13]
      · rw [if_neg c1] at hj
        have gg := fun L => get_old (L := L) hg
        have gs : ∀ L b, (hx K L).set id b = hx (K.set id b) L := fun L b => hx_set_old K L b id lid
        have rm : (acc.map runC)[m]? = some [.sc (.int .i64 acc[m].1), .sc (.int .i64 acc[m].2)] := by rw [List.getElem?_map, List.getElem?_eq_getElem gm]; rfl
        have wm : IntKind.i64.wrap ((if endM acc[m] < endM s[i] then endM s[i] else endM acc[m]) - acc[m].1) = mxM (endM acc[m]) (endM s[i]) - acc[m].1 := by
          unfold mxM endM
          exact wrap_i64 (by split <;> omega)
        simp only [↓vp, vq0, vq1, vq2, vq3, vr0, vr1, vr2, vr3, vr4, vr5, vr6, vr7, vr8, vr9, vr10, vr11, vr12, vr13, vr14, vr15, vr16, vr17, vr18, vr19, vr20, vr21, vr22, vr23, vr24, vr25, vr26, vr27, vr28, vr29, vr30, vr31, vr32, vr33, vr34, opS, fpS, extO, okP, pack, nAl, allocA, shId, leaves, fillA, fillR, splice, Nat.reduceLT, Nat.reduceEqDiff, Nat.reduceLeDiff, Nat.reduceAdd, Nat.reduceSub, Nat.reduceMul, Int.reduceBEq, Int.reduceBNe, Int.reduceLT, Int.reduceLE, Int.reduceEq, reduceIte, reduceCtorEq, da, int, boolA, dr, h4, h12, h13, h14, g1, ia, ca, runC, ln, e1, g2, ib, cb, ke, kx, pe, px, eq_false c1, w1, gg, rm, wm, gs]
        have hshape : (acc.map runC).set m [.sc (.int .i64 acc[m].1), .sc (.int .i64 (mxM (endM acc[m]) (endM s[i]) - acc[m].1))] = (joinS acc s[i]).map runC := by
          rw [hj, List.map_set]
          rfl
        simp only [↓vp, vq0, vq1, vq2, vq3, vr0, vr1, vr2, vr3, vr4, vr5, vr6, vr7, vr8, vr9, vr10, vr11, vr12, vr13, vr14, vr15, vr16, vr17, vr18, vr19, vr20, vr21, vr22, vr23, vr24, vr25, vr26, vr27, vr28, vr29, vr30, vr31, vr32, vr33, vr34, opS, fpS, extO, okP, pack, nAl, allocA, shId, leaves, fillA, fillR, splice, Nat.reduceLT, Nat.reduceEqDiff, Nat.reduceLeDiff, Nat.reduceAdd, Nat.reduceSub, Nat.reduceMul, Int.reduceBEq, Int.reduceBNe, Int.reduceLT, Int.reduceLE, Int.reduceEq, reduceIte, reduceCtorEq, da, int, boolA, dr, hS, hshape]
        rw [← hx_nil (hx (K.set _ _) _)]
        refine ih (i + 1) (.sl id 0 acc.length) (hx (K.set id (.row false 2 ((joinS acc s[i]).map runC))) [.box false (runC s[i])]) _ (by omega) ?_ (.inr ⟨id, hid, ?_, ?_⟩) ?_ ?_ ?_ ?_
        · refine get_old ?_ _
          rw [Heap.get_set_ne _ (by omega), ho]
        · rw [ht, List.length_map, hj, List.length_set]
        · rw [ht]
          refine get_old ?_ _
          rw [Heap.get_set_self _ lid]
        all_goals simp only [↓vp, vq0, vq1, vq2, vq3, vr0, vr1, vr2, vr3, vr4, vr5, vr6, vr7, vr8, vr9, vr10, vr11, vr12, vr13, vr14, vr15, vr16, vr17, vr18, vr19, vr20, vr21, vr22, vr23, vr24, vr25, vr26, vr27, vr28, vr29, vr30, vr31, vr32, vr33, vr34, opS, fpS, extO, okP, pack, nAl, allocA, shId, leaves, fillA, fillR, splice, Nat.reduceLT, Nat.reduceEqDiff, Nat.reduceLeDiff, Nat.reduceAdd, Nat.reduceSub, Nat.reduceMul, Int.reduceBEq, Int.reduceBNe, Int.reduceLT, Int.reduceLE, Int.reduceEq, reduceIte, reduceCtorEq, da, int, boolA, h4, h12, h13, hS]
def srsM (l : List RunM) : List SR := l.filterMap fun x => if h : 0 ≤ x.1 ∧ x.1 ≤ 1000000 then some ⟨x, h⟩ else none
noncomputable def sortR (l : List RunM) : List RunM := (sortL (srsM l)).map (·.1)
theorem srsM_val : ∀ {l : List RunM}, (∀ x ∈ l, mayM x = true) → (srsM l).map (·.1) = l
  | [], _ => rfl
  | x :: l, h => by
    have h1 := mayM_iff.1 (h x (by simp))
    have h2 := srsM_val (l := l) fun y hy => h y (by simp [hy])
    have h3 : 0 ≤ x.1 ∧ x.1 ≤ 1000000 := by omega
    unfold srsM at h2 ⊢
    rw [List.filterMap_cons, dif_pos h3]
    simp only [List.map_cons, h2]
theorem map_val (l : List SR) : l.map srC = (l.map (·.1)).map runC := by
  rw [List.map_map]
  rfl
theorem sortR_perm {l : List RunM} (h : ∀ x ∈ l, mayM x = true) : (sortR l).Perm l := by
  have := (sortL_perm (srsM l)).map (·.1)
  rw [srsM_val h] at this
  exact this
theorem sortR_len {l : List RunM} (h : ∀ x ∈ l, mayM x = true) : (sortR l).length = l.length := (sortR_perm h).length_eq
theorem sortR_may {l : List RunM} (h : ∀ x ∈ l, mayM x = true) : ∀ x ∈ sortR l, mayM x = true := fun x hx => h x ((sortR_perm h).mem_iff.1 hx)
theorem sortR_sorted (l : List RunM) : (sortR l).Pairwise fun a b => a.1 ≤ b.1 := by
  rw [List.pairwise_iff_getElem]
  intro i j hi hj hij
  simp only [sortR, List.length_map] at hi hj
  have := sortL_sorted (srsM l) i j hij hj
  simpa [sortR] using this
theorem ksort {l : List RunM} (hl : l.length ≤ 1000000) (hm : ∀ x ∈ l, mayM x = true) {Q : AV → Heap → Prop} :
    KW ft (.fn (.func 159) [] []) [.sl 1 0 l.length, .fn (.func 160) [] []] (hx Heap.empty [.dead, .row false 2 (l.map runC)]) Q ↔ Q (.tup []) (hx Heap.empty [.dead, .row false 2 ((sortR l).map runC)]) := by
  refine k_prim (p := sortP 160) rfl ?_ ?_
  · have e : l.map runC = (srsM l).map srC := by rw [map_val, srsM_val hm]
    unfold sortP
    simp only [hxe_get', List.getElem?_cons_succ, List.getElem?_cons_zero, if_true]
    rw [if_pos ⟨by simp, hl⟩, e, srsOf_map, Option.map_some]
    simp only [hxe_set, List.set_cons_succ, List.set_cons_zero]
    rw [map_val]
    rfl
  · rw [hxe_nx, hxe_nx]
    simp
theorem ksort0 {K : Heap} {L : List Blk} {Q : AV → Heap → Prop} : KW ft (.fn (.func 159) [] []) [.emp, .fn (.func 160) [] []] (hx K L) Q ↔ Q (.tup []) (hx K L) := by
  refine k_prim (p := sortP 160) rfl ?_ (Nat.le_refl _)
  unfold sortP
  simp
theorem allR (l : List RunM) : allSz 2 (l.map runC) = true := by simp [allSz, runC]
theorem k_eprim {T : FT} {k : Nat} {p : List AV → Nat → Option (AV × List Blk)} (hk : T k = some (.eprim p)) {args : List AV} {H : Heap} {L : List Blk} {r : AV} (h : p args H.next = some (r, L)) {Q : AV → Heap → Prop} : KW T (.fn (.func k) [] []) args H Q ↔ Q r ⟨H.bs ++ L⟩ := by
  refine KW_of ?_
  rw [callL_fn]
  unfold callF
  simp only [hk, List.nil_append, List.append_nil, h, Option.map_some]
theorem kcloR {T : FT} (hT : T 111 = some (.eprim (ecloP 2 16))) {l : List RunM} (h0 : l ≠ []) (hb : l.length ≤ 1000000) {K : Heap} {L : List Blk} {Q : AV → Heap → Prop} : KW T (.fn (.func 111) [] []) [encR l] (hx K L) Q ↔ Q (.sl ((hx K L).next + 1) 0 l.length) (hx K (L ++ [.dead, .row false 2 (l.map runC)])) := by
  rw [← hx_hx]
  refine k_eprim hT ?_
  cases l with
  | nil => exact absurd rfl h0
  | cons x xs =>
    show (if ((x :: xs).map runC).length * 16 ≤ 140737488355328 ∧ allSz 2 ((x :: xs).map runC) = true then some (AV.sl ((hx K L).next + 1) 0 ((x :: xs).map runC).length, [Blk.dead, Blk.row false 2 ((x :: xs).map runC)]) else none) = _
    rw [if_pos ⟨by simp only [List.length_map]; omega, allR _⟩, List.length_map]
theorem kcloR0 {T : FT} (hT : T 111 = some (.eprim (ecloP 2 16))) {K : Heap} {L : List Blk} {Q : AV → Heap → Prop} : KW T (.fn (.func 111) [] []) [encR []] (hx K L) Q ↔ Q .emp (hx K (L ++ [.dead])) := by
  rw [← hx_hx]
  exact k_eprim hT rfl
noncomputable def joinM (l : List RunM) : List RunM := (sortR l).foldl joinS []
theorem s110 (l : List RunM) (hl : l.length ≤ 1000000) (hm : ∀ x ∈ l, mayM x = true) {args : List AV} {H H1 : Heap} (hz : frzCells H args = some ([encR l], H1)) : callL ft (.fn (.func 110) [] []) args H = some (encR (joinM l), H1) := by
  refine call_p (as' := [encR l]) rfl (by simpa using hz) (by simp) ?_
  unfold c110 r110
  by_cases h0 : l = []
  · subst h0
    have e : joinM [] = [] := by
      unfold joinM
      rw [List.eq_nil_of_length_eq_zero (by rw [sortR_len (by simp)]; rfl : (sortR []).length = 0)]
      rfl
    have kc := fun K L Q => @kcloR0 ft rfl K L Q
    have ks := fun K L Q => @ksort0 K L Q
    rw [e]
    simp only [↓vp, vq0, vq1, vq2, vq3, vr0, vr1, vr2, vr3, vr4, vr5, vr6, vr7, vr8, vr9, vr10, vr11, vr12, vr13, vr14, vr15, vr16, vr17, vr18, vr19, vr20, vr21, vr22, vr23, vr24, vr25, vr26, vr27, vr28, vr29, vr30, vr31, vr32, vr33, vr34, opS, fpS, extO, okP, pack, nAl, allocA, shId, leaves, fillA, fillR, splice, Nat.reduceLT, Nat.reduceEqDiff, Nat.reduceLeDiff, Nat.reduceAdd, Nat.reduceSub, Nat.reduceMul, Int.reduceBEq, Int.reduceBNe, Int.reduceLT, Int.reduceLE, Int.reduceEq, reduceIte, reduceCtorEq, da, int, boolA, dr, kc, vemp, ks]
    rw [AW_loop]
    unfold c110L0
    simp only [↓vp, vq0, vq1, vq2, vq3, vr0, vr1, vr2, vr3, vr4, vr5, vr6, vr7, vr8, vr9, vr10, vr11, vr12, vr13, vr14, vr15, vr16, vr17, vr18, vr19, vr20, vr21, vr22, vr23, vr24, vr25, vr26, vr27, vr28, vr29, vr30, vr31, vr32, vr33, vr34, opS, fpS, extO, okP, pack, nAl, allocA, shId, leaves, fillA, fillR, splice, Nat.reduceLT, Nat.reduceEqDiff, Nat.reduceLeDiff, Nat.reduceAdd, Nat.reduceSub, Nat.reduceMul, Int.reduceBEq, Int.reduceBNe, Int.reduceLT, Int.reduceLE, Int.reduceEq, reduceIte, reduceCtorEq, da, int, boolA, dr, kc, vemp, ks]
    unfold c110R1
    simp only [↓vp, vq0, vq1, vq2, vq3, vr0, vr1, vr2, vr3, vr4, vr5, vr6, vr7, vr8, vr9, vr10, vr11, vr12, vr13, vr14, vr15, vr16, vr17, vr18, vr19, vr20, vr21, vr22, vr23, vr24, vr25, vr26, vr27, vr28, vr29, vr30, vr31, vr32, vr33, vr34, opS, fpS, extO, okP, pack, nAl, allocA, shId, leaves, fillA, fillR, splice, Nat.reduceLT, Nat.reduceEqDiff, Nat.reduceLeDiff, Nat.reduceAdd, Nat.reduceSub, Nat.reduceMul, Int.reduceBEq, Int.reduceBNe, Int.reduceLT, Int.reduceLE, Int.reduceEq, reduceIte, reduceCtorEq, da, int, boolA, RetP_go, resT, resC, resN, retV1, retV2, retV3, retV0, frzFZ, takeM, Option.some.injEq, dr, kc, vemp, ks]
    try rfl
  · have kc := fun K L Q => @kcloR ft rfl l h0 hl K L Q
    have ks := fun Q => @ksort l hl hm Q
    have e := sortR_len hm
    simp only [↓vp, vq0, vq1, vq2, vq3, vr0, vr1, vr2, vr3, vr4, vr5, vr6, vr7, vr8, vr9, vr10, vr11, vr12, vr13, vr14, vr15, vr16, vr17, vr18, vr19, vr20, vr21, vr22, vr23, vr24, vr25, vr26, vr27, vr28, vr29, vr30, vr31, vr32, vr33, vr34, opS, fpS, extO, okP, pack, nAl, allocA, shId, leaves, fillA, fillR, splice, Nat.reduceLT, Nat.reduceEqDiff, Nat.reduceLeDiff, Nat.reduceAdd, Nat.reduceSub, Nat.reduceMul, Int.reduceBEq, Int.reduceBNe, Int.reduceLT, Int.reduceLE, Int.reduceEq, reduceIte, reduceCtorEq, da, int, boolA, dr, kc, vemp, ks, List.length_nil, Nat.zero_add, List.nil_append]
    rw [← hx_nil (hx _ _)]
    refine l110 (sortR l) (by omega) (sortR_may hm) 1 (fun f' K S hr h4 => ?_) (sortR l).length 0 (.sc (.slice none 0 0)) _ _ (by simp) ?_ (.inl ⟨rfl, rfl⟩) ?_ ?_ ?_ ?_
    · unfold c110R1
      obtain ⟨K', hz⟩ := frz_rep (L := []) (by rw [hx_nil]; exact hr) 23
      simp only [↓vp, vq0, vq1, vq2, vq3, vr0, vr1, vr2, vr3, vr4, vr5, vr6, vr7, vr8, vr9, vr10, vr11, vr12, vr13, vr14, vr15, vr16, vr17, vr18, vr19, vr20, vr21, vr22, vr23, vr24, vr25, vr26, vr27, vr28, vr29, vr30, vr31, vr32, vr33, vr34, opS, fpS, extO, okP, pack, nAl, allocA, shId, leaves, fillA, fillR, splice, Nat.reduceLT, Nat.reduceEqDiff, Nat.reduceLeDiff, Nat.reduceAdd, Nat.reduceSub, Nat.reduceMul, Int.reduceBEq, Int.reduceBNe, Int.reduceLT, Int.reduceLE, Int.reduceEq, reduceIte, reduceCtorEq, h4]
      refine ret1 rfl (by decide) ?_
      simp only [↓vp, vq0, vq1, vq2, vq3, vr0, vr1, vr2, vr3, vr4, vr5, vr6, vr7, vr8, vr9, vr10, vr11, vr12, vr13, vr14, vr15, vr16, vr17, vr18, vr19, vr20, vr21, vr22, vr23, vr24, vr25, vr26, vr27, vr28, vr29, vr30, vr31, vr32, vr33, vr34, opS, fpS, extO, okP, pack, nAl, allocA, shId, leaves, fillA, fillR, splice, Nat.reduceLT, Nat.reduceEqDiff, Nat.reduceLeDiff, Nat.reduceAdd, Nat.reduceSub, Nat.reduceMul, Int.reduceBEq, Int.reduceBNe, Int.reduceLT, Int.reduceLE, Int.reduceEq, reduceIte, reduceCtorEq]
      exact ⟨K', hz⟩
    · rfl
    all_goals first | rfl | (simp only [↓vp, vq0, vq1, vq2, vq3, vr0, vr1, vr2, vr3, vr4, vr5, vr6, vr7, vr8, vr9, vr10, vr11, vr12, vr13, vr14, vr15, vr16, vr17, vr18, vr19, vr20, vr21, vr22, vr23, vr24, vr25, vr26, vr27, vr28, vr29, vr30, vr31, vr32, vr33, vr34, opS, fpS, extO, okP, pack, nAl, allocA, shId, leaves, fillA, fillR, splice, Nat.reduceLT, Nat.reduceEqDiff, Nat.reduceLeDiff, Nat.reduceAdd, Nat.reduceSub, Nat.reduceMul, Int.reduceBEq, Int.reduceBNe, Int.reduceLT, Int.reduceLE, Int.reduceEq, reduceIte, reduceCtorEq, da, int, boolA, e]; done)
end Go.VI

set_option linter.unusedVariables false
set_option linter.unusedSimpArgs false
set_option maxRecDepth 100000
namespace Go.VI
attribute [local congr] AW_congr OW_congr DW_congr NW_congr VW_congr GW_congr PW_congr KW_congr ite_congr' GV_congr CV_congr
theorem VW_appz {ft : FT} {e : Env} {H : Heap} {nid : Nat} {K : AV → Heap → Prop} (a b : Nat) (z : List AV) (x y : Operand) : VW ft nid e H (.appz a b z x y) K ↔ PW (opS nid e H (.appz a b z x y)) K := Iff.rfl
theorem VW_cap {ft : FT} {e : Env} {H : Heap} {nid : Nat} {K : AV → Heap → Prop} (x : Operand) : VW ft nid e H (.cap x) K ↔ PW (opS nid e H (.cap x)) K := Iff.rfl
theorem slice_sl0 {H : Heap} {id m sz : Nat} {rs : List (List AV)} (hg : H.get id = some (.row false sz rs)) (hm : m ≤ rs.length) : sliceA H sz (.sl id 0 m) none (some 0) none = some (.sl id 0 0) := by
  unfold sliceA boundsS
  simp [hg, hm]
theorem slice_nil0 (H : Heap) (sz : Nat) : sliceA H sz (.sc (.slice none 0 0)) none (some 0) none = some (.sc (.slice none 0 0)) := by
  unfold sliceA boundsA
  simp
theorem allSz_rep {sz n : Nat} {z : List AV} (h : z.length = sz) : allSz sz (List.replicate n z) = true := by simp [allSz, h]
def gzR : List AV := [.sc (.int .i64 0), .sc (.int .i64 0)]
theorem s1650 (H : Heap) : callL ft (.fn (.func 165) [] []) [.sc (.slice none 0 0), .sc (.int .i64 0)] H = some (.sc (.slice none 0 0), H) := by
  refine call_o (H1 := H) rfl (by simp) ?_
  unfold c165 r165 RetO
  have w0 : IntKind.i64.wrap (0 - 0) = 0 := rfl
  simp only [↓vp, vq0, vq1, vq2, vq3, vr0, vr1, vr2, vr3, vr4, vr5, vr6, vr7, vr8, vr9, vr10, vr11, vr12, vr13, vr14, vr15, vr16, vr17, vr18, vr19, vr20, vr21, vr22, vr23, vr24, vr25, vr26, vr27, vr28, vr29, vr30, vr31, vr32, vr33, vr34, opS, fpS, extO, okP, pack, nAl, allocA, shId, leaves, fillA, fillR, splice, Nat.reduceLT, Nat.reduceEqDiff, Nat.reduceLeDiff, Nat.reduceAdd, Nat.reduceSub, Nat.reduceMul, Int.reduceBEq, Int.reduceBNe, Int.reduceLT, Int.reduceLE, Int.reduceEq, reduceIte, reduceCtorEq, da, int, boolA, dr, VW_appz, VW_cap, opI0, opI1, w0]
  exact ⟨rfl, hx_nil _⟩
theorem s1651 {m : Nat} (h0 : 0 < m) (hm : m ≤ 4000000) (H : Heap) : callL ft (.fn (.func 165) [] []) [.sc (.slice none 0 0), int m] H = some (.sl H.next 0 0, hx H [.row false 2 (List.replicate m gzR)]) := by
  refine call_o rfl (by simp) ?_
  unfold c165 r165 RetO
  have w0 : IntKind.i64.wrap (0 - 0) = 0 := rfl
  have w1 : IntKind.i64.wrap ((m : Int) - 0) = (m : Int) := by rw [wrap_i64 (by omega)]; omega
  have g0 : ((m : Int) < 0) = False := eq_false (by omega)
  have g1 : ((0 : Int) < m) = True := eq_true (by omega)
  have g2 : (m = 0) = False := eq_false (by omega)
  have d2 : (m * 16 ≤ 140737488355328) = True := eq_true (by omega)
  have d3 : ((0 : Int) ≤ m) = True := eq_true (by omega)
  have ha : allSz 2 (List.replicate m gzR) = true := allSz_rep rfl
  have hs : sliceA (hx H [.row false 2 (List.replicate m gzR)]) 2 (.sl H.next 0 m) none (some 0) none = some (.sl H.next 0 0) := slice_sl0 (by rw [hx_get0]; rfl) (by simp)
  unfold gzR at *
  simp only [↓vp, vq0, vq1, vq2, vq3, vr0, vr1, vr2, vr3, vr4, vr5, vr6, vr7, vr8, vr9, vr10, vr11, vr12, vr13, vr14, vr15, vr16, vr17, vr18, vr19, vr20, vr21, vr22, vr23, vr24, vr25, vr26, vr27, vr28, vr29, vr30, vr31, vr32, vr33, vr34, opS, fpS, extO, okP, pack, nAl, allocA, shId, leaves, fillA, fillR, splice, Nat.reduceLT, Nat.reduceEqDiff, Nat.reduceLeDiff, Nat.reduceAdd, Nat.reduceSub, Nat.reduceMul, Int.reduceBEq, Int.reduceBNe, Int.reduceLT, Int.reduceLE, Int.reduceEq, reduceIte, reduceCtorEq, da, int, boolA, dr, VW_appz, VW_cap, opI0, opI1, w0, w1, g0, g1, g2, slice_nil0, Int.toNat_natCast, List.length_replicate, ha, d2, d3, hs]
  try rfl
theorem concR {A B : List RunM} {args : List AV} {H H1 : Heap} (hz : frzCells H args = some ([.lst [[encR A], [encR B]]], H1)) (ha : A.length ≤ 1000000) (hb : B.length ≤ 1000000) : callL ft (.fn (.func 113) [] []) args H = some (encR (A ++ B), H1) := by
  refine call_p rfl (by simpa using hz) (by simp) ?_
  unfold c113 r113
  have i0 : ∀ H, iaddrA H none 1 (.lst [[encR A], [encR B]]) 0 = some (.pim [[encR A], [encR B]] 0 0) := fun _ => rfl
  have i1 : ∀ H, iaddrA H none 1 (.lst [[encR A], [encR B]]) 1 = some (.pim [[encR A], [encR B]] 1 0) := fun _ => rfl
  have c0 : ∀ H, cellsAt H (.pim [[encR A], [encR B]] 0 0) 1 = some [encR A] := fun _ => rfl
  have c1 : ∀ H, cellsAt H (.pim [[encR A], [encR B]] 1 0) 1 = some [encR B] := fun _ => rfl
  have hl : ∀ H, lenV H 0 (.lst [[encR A], [encR B]]) = some (.sc (.int .i64 2), H) := fun _ => rfl
  have w0 : IntKind.i64.wrap (0 + 1) = 1 := rfl
  have w1 : IntKind.i64.wrap (1 + 1) = 2 := rfl
  have w2 : IntKind.i64.wrap (0 + (A.length : Int)) = A.length := by rw [wrap_i64 (by omega)]; omega
  have w3 : IntKind.i64.wrap ((A.length : Int) + B.length) = ((A.length + B.length : Nat) : Int) := by rw [wrap_i64 (by omega)]; omega
  have g0 : ((A.length : Int) < 0) = False := eq_false (by omega)
  have g1 : (((A.length + B.length : Nat) : Int) < 0) = False := eq_false (by omega)
  simp only [↓vp, vq0, vq1, vq2, vq3, vr0, vr1, vr2, vr3, vr4, vr5, vr6, vr7, vr8, vr9, vr10, vr11, vr12, vr13, vr14, vr15, vr16, vr17, vr18, vr19, vr20, vr21, vr22, vr23, vr24, vr25, vr26, vr27, vr28, vr29, vr30, vr31, vr32, vr33, vr34, opS, fpS, extO, okP, pack, nAl, allocA, shId, leaves, fillA, fillR, splice, Nat.reduceLT, Nat.reduceEqDiff, Nat.reduceLeDiff, Nat.reduceAdd, Nat.reduceSub, Nat.reduceMul, Int.reduceBEq, Int.reduceBNe, Int.reduceLT, Int.reduceLE, Int.reduceEq, reduceIte, reduceCtorEq, da, int, boolA, dr, hl]
  rw [AW_loop]
  unfold c113L0
  simp only [↓vp, vq0, vq1, vq2, vq3, vr0, vr1, vr2, vr3, vr4, vr5, vr6, vr7, vr8, vr9, vr10, vr11, vr12, vr13, vr14, vr15, vr16, vr17, vr18, vr19, vr20, vr21, vr22, vr23, vr24, vr25, vr26, vr27, vr28, vr29, vr30, vr31, vr32, vr33, vr34, opS, fpS, extO, okP, pack, nAl, allocA, shId, leaves, fillA, fillR, splice, Nat.reduceLT, Nat.reduceEqDiff, Nat.reduceLeDiff, Nat.reduceAdd, Nat.reduceSub, Nat.reduceMul, Int.reduceBEq, Int.reduceBNe, Int.reduceLT, Int.reduceLE, Int.reduceEq, reduceIte, reduceCtorEq, da, int, boolA, dr, hl, i0, c0, w0, w2, g0]
  rw [AW_loop]
  simp only [↓vp, vq0, vq1, vq2, vq3, vr0, vr1, vr2, vr3, vr4, vr5, vr6, vr7, vr8, vr9, vr10, vr11, vr12, vr13, vr14, vr15, vr16, vr17, vr18, vr19, vr20, vr21, vr22, vr23, vr24, vr25, vr26, vr27, vr28, vr29, vr30, vr31, vr32, vr33, vr34, opS, fpS, extO, okP, pack, nAl, allocA, shId, leaves, fillA, fillR, splice, Nat.reduceLT, Nat.reduceEqDiff, Nat.reduceLeDiff, Nat.reduceAdd, Nat.reduceSub, Nat.reduceMul, Int.reduceBEq, Int.reduceBNe, Int.reduceLT, Int.reduceLE, Int.reduceEq, reduceIte, reduceCtorEq, da, int, boolA, dr, hl, i1, c1, w1, w3, g1]
  rw [AW_loop]
  simp only [↓vp, vq0, vq1, vq2, vq3, vr0, vr1, vr2, vr3, vr4, vr5, vr6, vr7, vr8, vr9, vr10, vr11, vr12, vr13, vr14, vr15, vr16, vr17, vr18, vr19, vr20, vr21, vr22, vr23, vr24, vr25, vr26, vr27, vr28, vr29, vr30, vr31, vr32, vr33, vr34, opS, fpS, extO, okP, pack, nAl, allocA, shId, leaves, fillA, fillR, splice, Nat.reduceLT, Nat.reduceEqDiff, Nat.reduceLeDiff, Nat.reduceAdd, Nat.reduceSub, Nat.reduceMul, Int.reduceBEq, Int.reduceBNe, Int.reduceLT, Int.reduceLE, Int.reduceEq, reduceIte, reduceCtorEq, da, int, boolA, dr]
  unfold c113R3
  by_cases hm : A.length + B.length = 0
  · obtain rfl : A = [] := List.eq_nil_of_length_eq_zero (by omega)
    obtain rfl : B = [] := List.eq_nil_of_length_eq_zero (by omega)
    have kg := fun K L Q => @KW_of ft _ _ _ Q _ _ (s1650 (hx K L))
    have r0 : ∀ H, rowsOf H (encR []) = some [] := fun _ => rfl
    simp only [↓vp, vq0, vq1, vq2, vq3, vr0, vr1, vr2, vr3, vr4, vr5, vr6, vr7, vr8, vr9, vr10, vr11, vr12, vr13, vr14, vr15, vr16, vr17, vr18, vr19, vr20, vr21, vr22, vr23, vr24, vr25, vr26, vr27, vr28, vr29, vr30, vr31, vr32, vr33, vr34, opS, fpS, extO, okP, pack, nAl, allocA, shId, leaves, fillA, fillR, splice, Nat.reduceLT, Nat.reduceEqDiff, Nat.reduceLeDiff, Nat.reduceAdd, Nat.reduceSub, Nat.reduceMul, Int.reduceBEq, Int.reduceBNe, Int.reduceLT, Int.reduceLE, Int.reduceEq, reduceIte, reduceCtorEq, da, int, boolA, dr, List.length_nil, Nat.add_zero, Int.natCast_zero, kg, hl, r0]
    rw [AW_loop]
    unfold c113L1
    simp only [↓vp, vq0, vq1, vq2, vq3, vr0, vr1, vr2, vr3, vr4, vr5, vr6, vr7, vr8, vr9, vr10, vr11, vr12, vr13, vr14, vr15, vr16, vr17, vr18, vr19, vr20, vr21, vr22, vr23, vr24, vr25, vr26, vr27, vr28, vr29, vr30, vr31, vr32, vr33, vr34, opS, fpS, extO, okP, pack, nAl, allocA, shId, leaves, fillA, fillR, splice, Nat.reduceLT, Nat.reduceEqDiff, Nat.reduceLeDiff, Nat.reduceAdd, Nat.reduceSub, Nat.reduceMul, Int.reduceBEq, Int.reduceBNe, Int.reduceLT, Int.reduceLE, Int.reduceEq, reduceIte, reduceCtorEq, da, int, boolA, dr, List.length_nil, Nat.add_zero, Int.natCast_zero, kg, hl, i0, c0, w0, r0]
    rw [AW_loop]
    simp only [↓vp, vq0, vq1, vq2, vq3, vr0, vr1, vr2, vr3, vr4, vr5, vr6, vr7, vr8, vr9, vr10, vr11, vr12, vr13, vr14, vr15, vr16, vr17, vr18, vr19, vr20, vr21, vr22, vr23, vr24, vr25, vr26, vr27, vr28, vr29, vr30, vr31, vr32, vr33, vr34, opS, fpS, extO, okP, pack, nAl, allocA, shId, leaves, fillA, fillR, splice, Nat.reduceLT, Nat.reduceEqDiff, Nat.reduceLeDiff, Nat.reduceAdd, Nat.reduceSub, Nat.reduceMul, Int.reduceBEq, Int.reduceBNe, Int.reduceLT, Int.reduceLE, Int.reduceEq, reduceIte, reduceCtorEq, da, int, boolA, dr, List.length_nil, Nat.add_zero, Int.natCast_zero, kg, hl, i1, c1, w1, r0]
    rw [AW_loop]
    simp only [↓vp, vq0, vq1, vq2, vq3, vr0, vr1, vr2, vr3, vr4, vr5, vr6, vr7, vr8, vr9, vr10, vr11, vr12, vr13, vr14, vr15, vr16, vr17, vr18, vr19, vr20, vr21, vr22, vr23, vr24, vr25, vr26, vr27, vr28, vr29, vr30, vr31, vr32, vr33, vr34, opS, fpS, extO, okP, pack, nAl, allocA, shId, leaves, fillA, fillR, splice, Nat.reduceLT, Nat.reduceEqDiff, Nat.reduceLeDiff, Nat.reduceAdd, Nat.reduceSub, Nat.reduceMul, Int.reduceBEq, Int.reduceBNe, Int.reduceLT, Int.reduceLE, Int.reduceEq, reduceIte, reduceCtorEq, da, int, boolA, dr, RetP_go, resT, resC, resN, retV1, retV2, retV3, retV0, frzFZ, takeM, Option.some.injEq, c113R2]
    rfl
  · have kg := fun K L Q => @KW_of ft _ _ _ Q _ _ (s1651 (m := A.length + B.length) (by omega) (by omega) (hx K L))
    have rI : ∀ H l, rowsOf H (encR l) = some (l.map runC) := fun _ _ => rfl
    have e0 : (List.replicate (A.length + B.length) gzR).length = A.length + B.length := by simp
    have e1 : List.drop A.length (List.replicate (A.length + B.length) gzR) = List.replicate B.length gzR := by simp
    have e2 : (A.map runC ++ List.replicate B.length gzR).length = A.length + B.length := by simp
    have e3 : List.take A.length (A.map runC ++ List.replicate B.length gzR) = A.map runC := by simp
    have e4 : List.drop (A.length + B.length) (A.map runC ++ List.replicate B.length gzR) = [] := List.drop_eq_nil_of_le (by simp)
    have e5 : (A.map runC ++ B.map runC).length = A.length + B.length := by simp
    have e6 : List.take (A.length + B.length) (A.map runC ++ B.map runC) = (A ++ B).map runC := by rw [← e5, List.take_length, List.map_append]
    have d1 : (A.length * 16 ≤ 140737488355328) = True := eq_true (by omega)
    have d2 : ((A.length + B.length) * 16 ≤ 140737488355328) = True := eq_true (by omega)
    simp only [int] at kg
    simp only [↓vp, vq0, vq1, vq2, vq3, vr0, vr1, vr2, vr3, vr4, vr5, vr6, vr7, vr8, vr9, vr10, vr11, vr12, vr13, vr14, vr15, vr16, vr17, vr18, vr19, vr20, vr21, vr22, vr23, vr24, vr25, vr26, vr27, vr28, vr29, vr30, vr31, vr32, vr33, vr34, opS, fpS, extO, okP, pack, nAl, allocA, shId, leaves, fillA, fillR, splice, Nat.reduceLT, Nat.reduceEqDiff, Nat.reduceLeDiff, Nat.reduceAdd, Nat.reduceSub, Nat.reduceMul, Int.reduceBEq, Int.reduceBNe, Int.reduceLT, Int.reduceLE, Int.reduceEq, reduceIte, reduceCtorEq, da, int, boolA, dr, kg, hl, hxe_nx, hx_hx]
    rw [AW_loop]
    unfold c113L1
    simp only [↓vp, vq0, vq1, vq2, vq3, vr0, vr1, vr2, vr3, vr4, vr5, vr6, vr7, vr8, vr9, vr10, vr11, vr12, vr13, vr14, vr15, vr16, vr17, vr18, vr19, vr20, vr21, vr22, vr23, vr24, vr25, vr26, vr27, vr28, vr29, vr30, vr31, vr32, vr33, vr34, opS, fpS, extO, okP, pack, nAl, allocA, shId, leaves, fillA, fillR, splice, Nat.reduceLT, Nat.reduceEqDiff, Nat.reduceLeDiff, Nat.reduceAdd, Nat.reduceSub, Nat.reduceMul, Int.reduceBEq, Int.reduceBNe, Int.reduceLT, Int.reduceLE, Int.reduceEq, reduceIte, reduceCtorEq, da, int, boolA, dr, hl, i0, c0, w0, rI, e0, e1, d1, allR, Nat.zero_le, Nat.le_add_right]
    rw [AW_loop]
    simp only [↓vp, vq0, vq1, vq2, vq3, vr0, vr1, vr2, vr3, vr4, vr5, vr6, vr7, vr8, vr9, vr10, vr11, vr12, vr13, vr14, vr15, vr16, vr17, vr18, vr19, vr20, vr21, vr22, vr23, vr24, vr25, vr26, vr27, vr28, vr29, vr30, vr31, vr32, vr33, vr34, opS, fpS, extO, okP, pack, nAl, allocA, shId, leaves, fillA, fillR, splice, Nat.reduceLT, Nat.reduceEqDiff, Nat.reduceLeDiff, Nat.reduceAdd, Nat.reduceSub, Nat.reduceMul, Int.reduceBEq, Int.reduceBNe, Int.reduceLT, Int.reduceLE, Int.reduceEq, reduceIte, reduceCtorEq, da, int, boolA, dr, hl, i1, c1, w1, rI, e2, e3, e4, d2, allR, Nat.le_add_right]
    rw [AW_loop]
    simp only [↓vp, vq0, vq1, vq2, vq3, vr0, vr1, vr2, vr3, vr4, vr5, vr6, vr7, vr8, vr9, vr10, vr11, vr12, vr13, vr14, vr15, vr16, vr17, vr18, vr19, vr20, vr21, vr22, vr23, vr24, vr25, vr26, vr27, vr28, vr29, vr30, vr31, vr32, vr33, vr34, opS, fpS, extO, okP, pack, nAl, allocA, shId, leaves, fillA, fillR, splice, Nat.reduceLT, Nat.reduceEqDiff, Nat.reduceLeDiff, Nat.reduceAdd, Nat.reduceSub, Nat.reduceMul, Int.reduceBEq, Int.reduceBNe, Int.reduceLT, Int.reduceLE, Int.reduceEq, reduceIte, reduceCtorEq, da, int, boolA, dr, RetP_go, resT, resC, resN, retV1, retV2, retV3, retV0, frzFZ, takeM, Option.some.injEq, c113R2, e5, e6]
    try rfl
def singM (pages : List Int) : List RunM := (pages.map fun p => ((p, 1) : RunM)).filter mayM
theorem singM_may (l : List Int) : ∀ x ∈ singM l, mayM x = true := fun x hx => (List.mem_filter.1 hx).2
theorem singM_len (l : List Int) : (singM l).length ≤ l.length := by
  have := List.length_filter_le mayM (l.map fun p => ((p, 1) : RunM))
  simpa [singM] using this
theorem singM_take {l : List Int} {i : Nat} (h : i < l.length) : singM (l.take (i + 1)) = if mayM (l[i], 1) then singM (l.take i) ++ [(l[i], 1)] else singM (l.take i) := by
  unfold singM
  rw [List.take_succ_eq_append_getElem h, List.map_append, List.filter_append]
  cases e : mayM (l[i], 1) <;> simp [e]
theorem l47 (l : List Int) (hl : l.length ≤ 1000000) {Q : AExit → Env → Heap → Prop}
   (hex : ∀ f' K S, Rep K 2 S ((singM l).map runC) → f' 3 = S → Q (.exit 0) (mkE 24 f') (hx K [])) :
   ∀ (d i : Nat) (S : AV) (K : Heap) (f : Nat → AV), i + d = l.length → Rep K 2 S ((singM (l.take i)).map runC) → f 3 = S → f 7 = encN l → f 8 = int l.length → f 9 = int i →
    AW ft (.loop c47L0) (mkE 24 f) (hx K []) Q := by
  intro d
  induction d with
  | zero =>
    intro i S K f hd hr h3 h7 h8 h9
    have g : ((i : Int) < l.length) = False := by simp; omega
    rw [AW_loop]
    unfold c47L0
    rw [List.take_of_length_le (by omega)] at hr
    simp only [↓vp, vq0, vq1, vq2, vq3, vr0, vr1, vr2, vr3, vr4, vr5, vr6, vr7, vr8, vr9, vr10, vr11, vr12, vr13, vr14, vr15, vr16, vr17, vr18, vr19, vr20, vr21, vr22, vr23, vr24, vr25, vr26, vr27, vr28, vr29, vr30, vr31, vr32, vr33, vr34, opS, fpS, extO, okP, pack, nAl, allocA, shId, leaves, fillA, fillR, splice, Nat.reduceLT, Nat.reduceEqDiff, Nat.reduceLeDiff, Nat.reduceAdd, Nat.reduceSub, Nat.reduceMul, Int.reduceBEq, Int.reduceBNe, Int.reduceLT, Int.reduceLE, Int.reduceEq, reduceIte, reduceCtorEq, da, int, boolA, h8, h9, g]
    refine hex _ K S hr ?_
    simp only [↓vp, vq0, vq1, vq2, vq3, vr0, vr1, vr2, vr3, vr4, vr5, vr6, vr7, vr8, vr9, vr10, vr11, vr12, vr13, vr14, vr15, vr16, vr17, vr18, vr19, vr20, vr21, vr22, vr23, vr24, vr25, vr26, vr27, vr28, vr29, vr30, vr31, vr32, vr33, vr34, opS, fpS, extO, okP, pack, nAl, allocA, shId, leaves, fillA, fillR, splice, Nat.reduceLT, Nat.reduceEqDiff, Nat.reduceLeDiff, Nat.reduceAdd, Nat.reduceSub, Nat.reduceMul, Int.reduceBEq, Int.reduceBNe, Int.reduceLT, Int.reduceLE, Int.reduceEq, reduceIte, reduceCtorEq, da, int, boolA, h3]
  | succ d ih =>
    intro i S K f hd hr h3 h7 h8 h9
    have g1 : ((i : Int) < l.length) = True := by simp; omega
    have gi : i < l.length := by omega
    have w1 := wrap_succ (show i < 9223372036854775807 by omega)
    have ht := singM_take gi
    have hlen : (singM (l.take i)).length ≤ 1000000 := by have := singM_len (l.take i); simp at this; omega
    have ap := fun nid L => appA_rep (nid := nid) (bytes := 16) hr (xs := [runC (l[i], 1)]) (by simp) rfl (by simp; omega) L
    have km := fun K L Q => @k106 (l[i], 1) K L Q
    rw [List.length_map] at ap
    simp only [runC, int, List.length_singleton] at ap km
    rw [AW_loop]
    unfold c47L0
    cases e : mayM (l[i], 1) with
    | true =>
      rw [e] at km
      rw [e, if_pos rfl] at ht
      simp only [↓vp, vq0, vq1, vq2, vq3, vr0, vr1, vr2, vr3, vr4, vr5, vr6, vr7, vr8, vr9, vr10, vr11, vr12, vr13, vr14, vr15, vr16, vr17, vr18, vr19, vr20, vr21, vr22, vr23, vr24, vr25, vr26, vr27, vr28, vr29, vr30, vr31, vr32, vr33, vr34, opS, fpS, extO, okP, pack, nAl, allocA, shId, leaves, fillA, fillR, splice, Nat.reduceLT, Nat.reduceEqDiff, Nat.reduceLeDiff, Nat.reduceAdd, Nat.reduceSub, Nat.reduceMul, Int.reduceBEq, Int.reduceBNe, Int.reduceLT, Int.reduceLE, Int.reduceEq, reduceIte, reduceCtorEq, da, int, boolA, dr, h3, h7, h8, h9, g1, atN gi, cN gi, numC, km, ap, kill_next, w1]
      rw [← hx_nil (hx _ _)]
      refine ih (i + 1) (.sl (K.next + 2) 0 ((singM (l.take i)).length + 1)) _ _ (by omega) (.inr ⟨K.next + 2, ?_, ?_⟩) ?_ ?_ ?_ ?_
      · rw [ht]
        simp
      · rw [ht]
        simp only [↓vp, vq0, vq1, vq2, vq3, vr0, vr1, vr2, vr3, vr4, vr5, vr6, vr7, vr8, vr9, vr10, vr11, vr12, vr13, vr14, vr15, vr16, vr17, vr18, vr19, vr20, vr21, vr22, vr23, vr24, vr25, vr26, vr27, vr28, vr29, vr30, vr31, vr32, vr33, vr34, opS, fpS, extO, okP, pack, nAl, allocA, shId, leaves, fillA, fillR, splice, Nat.reduceLT, Nat.reduceEqDiff, Nat.reduceLeDiff, Nat.reduceAdd, Nat.reduceSub, Nat.reduceMul, Int.reduceBEq, Int.reduceBNe, Int.reduceLT, Int.reduceLE, Int.reduceEq, reduceIte, reduceCtorEq, kill_next, List.map_append]
        rfl
      all_goals simp only [↓vp, vq0, vq1, vq2, vq3, vr0, vr1, vr2, vr3, vr4, vr5, vr6, vr7, vr8, vr9, vr10, vr11, vr12, vr13, vr14, vr15, vr16, vr17, vr18, vr19, vr20, vr21, vr22, vr23, vr24, vr25, vr26, vr27, vr28, vr29, vr30, vr31, vr32, vr33, vr34, opS, fpS, extO, okP, pack, nAl, allocA, shId, leaves, fillA, fillR, splice, Nat.reduceLT, Nat.reduceEqDiff, Nat.reduceLeDiff, Nat.reduceAdd, Nat.reduceSub, Nat.reduceMul, Int.reduceBEq, Int.reduceBNe, Int.reduceLT, Int.reduceLE, Int.reduceEq, reduceIte, reduceCtorEq, da, int, boolA, h7, h8]
    | false =>
      rw [e] at km
      rw [e, if_neg (by simp)] at ht
      simp only [↓vp, vq0, vq1, vq2, vq3, vr0, vr1, vr2, vr3, vr4, vr5, vr6, vr7, vr8, vr9, vr10, vr11, vr12, vr13, vr14, vr15, vr16, vr17, vr18, vr19, vr20, vr21, vr22, vr23, vr24, vr25, vr26, vr27, vr28, vr29, vr30, vr31, vr32, vr33, vr34, opS, fpS, extO, okP, pack, nAl, allocA, shId, leaves, fillA, fillR, splice, Nat.reduceLT, Nat.reduceEqDiff, Nat.reduceLeDiff, Nat.reduceAdd, Nat.reduceSub, Nat.reduceMul, Int.reduceBEq, Int.reduceBNe, Int.reduceLT, Int.reduceLE, Int.reduceEq, reduceIte, reduceCtorEq, da, int, boolA, dr, h3, h7, h8, h9, g1, atN gi, cN gi, numC, km, w1]
      rw [← hx_nil (hx _ _)]
      refine ih (i + 1) S _ _ (by omega) ?_ ?_ ?_ ?_ ?_
      · rw [ht]
        exact hr.mono fun id h => get_old h _
      all_goals simp only [↓vp, vq0, vq1, vq2, vq3, vr0, vr1, vr2, vr3, vr4, vr5, vr6, vr7, vr8, vr9, vr10, vr11, vr12, vr13, vr14, vr15, vr16, vr17, vr18, vr19, vr20, vr21, vr22, vr23, vr24, vr25, vr26, vr27, vr28, vr29, vr30, vr31, vr32, vr33, vr34, opS, fpS, extO, okP, pack, nAl, allocA, shId, leaves, fillA, fillR, splice, Nat.reduceLT, Nat.reduceEqDiff, Nat.reduceLeDiff, Nat.reduceAdd, Nat.reduceSub, Nat.reduceMul, Int.reduceBEq, Int.reduceBNe, Int.reduceLT, Int.reduceLE, Int.reduceEq, reduceIte, reduceCtorEq, da, int, boolA, h3, h7, h8]
noncomputable def ofM (l : List Int) : List RunM := joinM (singM l)
theorem s47 (l : List Int) (hl : l.length ≤ 1000000) (H : Heap) : callL ft (.fn (.func 47) [] []) [encN l] H = some (encR (ofM l), H) := by
  refine call_p (as' := [encN l]) rfl rfl (by simp) ?_
  unfold c47 r47
  simp only [↓vp, vq0, vq1, vq2, vq3, vr0, vr1, vr2, vr3, vr4, vr5, vr6, vr7, vr8, vr9, vr10, vr11, vr12, vr13, vr14, vr15, vr16, vr17, vr18, vr19, vr20, vr21, vr22, vr23, vr24, vr25, vr26, vr27, vr28, vr29, vr30, vr31, vr32, vr33, vr34, opS, fpS, extO, okP, pack, nAl, allocA, shId, leaves, fillA, fillR, splice, Nat.reduceLT, Nat.reduceEqDiff, Nat.reduceLeDiff, Nat.reduceAdd, Nat.reduceSub, Nat.reduceMul, Int.reduceBEq, Int.reduceBNe, Int.reduceLT, Int.reduceLE, Int.reduceEq, reduceIte, reduceCtorEq, da, int, boolA, dr]
  rw [← hx_nil (Heap.empty)]
  refine l47 l hl (fun f' K S hr h3 => ?_) l.length 0 (.sc (.slice none 0 0)) _ _ (by simp) (.inl ⟨rfl, by simp [singM]⟩) ?_ ?_ ?_ ?_
  · unfold c47R1
    obtain ⟨K', hz⟩ := frz_rep (L := []) (by rw [hx_nil]; exact hr) 22
    have hz2 : frzCells (hx K []) [S] = some ([encR (singM l)], K') := by
      show frz.frzL 24 (hx K []) [S] = _
      simp only [frz.frzL, hz]
      rfl
    have kj := fun Q => @KW_of ft _ _ _ Q _ _ (s110 (singM l) (by have := singM_len l; omega) (singM_may l) hz2)
    simp only [↓vp, vq0, vq1, vq2, vq3, vr0, vr1, vr2, vr3, vr4, vr5, vr6, vr7, vr8, vr9, vr10, vr11, vr12, vr13, vr14, vr15, vr16, vr17, vr18, vr19, vr20, vr21, vr22, vr23, vr24, vr25, vr26, vr27, vr28, vr29, vr30, vr31, vr32, vr33, vr34, opS, fpS, extO, okP, pack, nAl, allocA, shId, leaves, fillA, fillR, splice, Nat.reduceLT, Nat.reduceEqDiff, Nat.reduceLeDiff, Nat.reduceAdd, Nat.reduceSub, Nat.reduceMul, Int.reduceBEq, Int.reduceBNe, Int.reduceLT, Int.reduceLE, Int.reduceEq, reduceIte, reduceCtorEq, h3]
    rw [kj, ← hx_nil K']
    simp only [↓vp, vq0, vq1, vq2, vq3, vr0, vr1, vr2, vr3, vr4, vr5, vr6, vr7, vr8, vr9, vr10, vr11, vr12, vr13, vr14, vr15, vr16, vr17, vr18, vr19, vr20, vr21, vr22, vr23, vr24, vr25, vr26, vr27, vr28, vr29, vr30, vr31, vr32, vr33, vr34, opS, fpS, extO, okP, pack, nAl, allocA, shId, leaves, fillA, fillR, splice, Nat.reduceLT, Nat.reduceEqDiff, Nat.reduceLeDiff, Nat.reduceAdd, Nat.reduceSub, Nat.reduceMul, Int.reduceBEq, Int.reduceBNe, Int.reduceLT, Int.reduceLE, Int.reduceEq, reduceIte, reduceCtorEq, da, int, boolA, RetP_go, resT, resC, resN, retV1, retV2, retV3, retV0, frzFZ, takeM, Option.some.injEq, dr]
    rfl
  all_goals first | rfl | (simp only [↓vp, vq0, vq1, vq2, vq3, vr0, vr1, vr2, vr3, vr4, vr5, vr6, vr7, vr8, vr9, vr10, vr11, vr12, vr13, vr14, vr15, vr16, vr17, vr18, vr19, vr20, vr21, vr22, vr23, vr24, vr25, vr26, vr27, vr28, vr29, vr30, vr31, vr32, vr33, vr34, opS, fpS, extO, okP, pack, nAl, allocA, shId, leaves, fillA, fillR, splice, Nat.reduceLT, Nat.reduceEqDiff, Nat.reduceLeDiff, Nat.reduceAdd, Nat.reduceSub, Nat.reduceMul, Int.reduceBEq, Int.reduceBNe, Int.reduceLT, Int.reduceLE, Int.reduceEq, reduceIte, reduceCtorEq, da, int, boolA]; done)
noncomputable def unionM (a b : List RunM) : List RunM := joinM (cleanM a ++ cleanM b)
theorem cleans_may (a b : List RunM) : ∀ x ∈ cleanM a ++ cleanM b, mayM x = true := fun x hx => by
  rcases List.mem_append.1 hx with h | h
  · exact clean_may a x h
  · exact clean_may b x h
theorem s52 (a b : List RunM) (ha : a.length ≤ 1000) (hb : b.length ≤ 1000) (H : Heap) : callL ft (.fn (.func 52) [] []) [encR a, encR b] H = some (encR (unionM a b), H) := by
  refine call_p (as' := [encR a, encR b]) rfl rfl (by simp) ?_
  unfold c52 r52 unionM
  have h1 := cleanM_len a
  have h2 := cleanM_len b
  have ka := fun K L Q => @k105 a (by omega) K L Q
  have kb := fun K L Q => @k105 b (by omega) K L Q
  have pa : pureV ft (.fn (.func 105) [] []) [encR a] = some (false, []) := rfl
  have pb : pureV ft (.fn (.func 105) [] []) [encR b] = some (false, []) := rfl
  have hz : frzCells (hx Heap.empty [.row false 1 [[encR (cleanM a)], [encR (cleanM b)]]]) [.sl 0 0 2] = some ([.lst [[encR (cleanM a)], [encR (cleanM b)]]], hx Heap.empty [.row true 1 [[encR (cleanM a)], [encR (cleanM b)]]]) := rfl
  have kc := fun Q => @KW_of ft _ _ _ Q _ _ (concR hz (by omega) (by omega))
  have kj := fun H Q => @KW_of ft _ _ _ Q _ _ (s110 (cleanM a ++ cleanM b) (by simp; omega) (cleans_may a b) (args := [encR (cleanM a ++ cleanM b)]) (H := H) (H1 := H) rfl)
  simp only [↓vp, vq0, vq1, vq2, vq3, vr0, vr1, vr2, vr3, vr4, vr5, vr6, vr7, vr8, vr9, vr10, vr11, vr12, vr13, vr14, vr15, vr16, vr17, vr18, vr19, vr20, vr21, vr22, vr23, vr24, vr25, vr26, vr27, vr28, vr29, vr30, vr31, vr32, vr33, vr34, opS, fpS, extO, okP, pack, nAl, allocA, shId, leaves, fillA, fillR, splice, Nat.reduceLT, Nat.reduceEqDiff, Nat.reduceLeDiff, Nat.reduceAdd, Nat.reduceSub, Nat.reduceMul, Int.reduceBEq, Int.reduceBNe, Int.reduceLT, Int.reduceLE, Int.reduceEq, reduceIte, reduceCtorEq, da, int, boolA, RetP_go, resT, resC, resN, retV1, retV2, retV3, retV0, frzFZ, takeM, Option.some.injEq, dr, ka, kb, pa, pb]
  rw [kc]
  simp only [↓vp, vq0, vq1, vq2, vq3, vr0, vr1, vr2, vr3, vr4, vr5, vr6, vr7, vr8, vr9, vr10, vr11, vr12, vr13, vr14, vr15, vr16, vr17, vr18, vr19, vr20, vr21, vr22, vr23, vr24, vr25, vr26, vr27, vr28, vr29, vr30, vr31, vr32, vr33, vr34, opS, fpS, extO, okP, pack, nAl, allocA, shId, leaves, fillA, fillR, splice, Nat.reduceLT, Nat.reduceEqDiff, Nat.reduceLeDiff, Nat.reduceAdd, Nat.reduceSub, Nat.reduceMul, Int.reduceBEq, Int.reduceBNe, Int.reduceLT, Int.reduceLE, Int.reduceEq, reduceIte, reduceCtorEq, da, int, boolA, RetP_go, resT, resC, resN, retV1, retV2, retV3, retV0, frzFZ, takeM, Option.some.injEq, dr]
  rw [kj]
  simp only [↓vp, vq0, vq1, vq2, vq3, vr0, vr1, vr2, vr3, vr4, vr5, vr6, vr7, vr8, vr9, vr10, vr11, vr12, vr13, vr14, vr15, vr16, vr17, vr18, vr19, vr20, vr21, vr22, vr23, vr24, vr25, vr26, vr27, vr28, vr29, vr30, vr31, vr32, vr33, vr34, opS, fpS, extO, okP, pack, nAl, allocA, shId, leaves, fillA, fillR, splice, Nat.reduceLT, Nat.reduceEqDiff, Nat.reduceLeDiff, Nat.reduceAdd, Nat.reduceSub, Nat.reduceMul, Int.reduceBEq, Int.reduceBNe, Int.reduceLT, Int.reduceLE, Int.reduceEq, reduceIte, reduceCtorEq, da, int, boolA, RetP_go, resT, resC, resN, retV1, retV2, retV3, retV0, frzFZ, takeM, Option.some.injEq, dr]
theorem exFQ_ext (H H' : Heap) : exFQ true (.any H H') = .ext H.next H'.next := rfl
theorem compat_el (n m : Nat) (w : Bool) (t : List Nat) : compat (.ext n m) (.loc w t) = t.all fun i => decide (i < n) := by
  cases t <;> simp [compat]
theorem all_nil' (p : Nat → Bool) : ([] : List Nat).all p = true := rfl
theorem all_cons' (p : Nat → Bool) (a : Nat) (t : List Nat) : (a :: t).all p = (p a && t.all p) := rfl
def addB (l : List RunM) (x : RunM) : Bool := mayM x && !decide (0 ≤ overI (cleanM l) x)
noncomputable def addM (l : List RunM) (x : RunM) : List RunM := if addB l x then joinM (cleanM l ++ [x]) else cleanM l
theorem addB_may {l : List RunM} {x : RunM} (h : mayM x = true) : ∀ y ∈ cleanM l ++ [x], mayM y = true := fun y hy => by
  rcases List.mem_append.1 hy with hy | hy
  · exact clean_may l y hy
  · simp at hy; rw [hy]; exact h
theorem s50 (l : List RunM) (hl : l.length ≤ 1000) (x : RunM) (H : Heap) : callL ftM (.fn (.func 50) [] []) [encR l, .agg (runC x)] H = some (.tup [encR (addM l x), boolA (addB l x)], H) := by
  refine call_p (as' := [encR l, .agg (runC x)]) rfl rfl (by simp) ?_
  unfold c50 r50
  have h1 := cleanM_len l
  have km := fun K L Q => @kM_of _ _ Q _ _ _ (s106 x (hx K L))
  have kc := fun K L Q => @kM_of _ _ Q _ _ _ (s105 l (by omega) (hx K L))
  have ko := fun K L Q => @k109l (cleanM l) (by omega) x K L Q
  have k0 := fun K L Q => @kcloR0 ftM rfl K L Q
  simp only [runC, int] at km ko
  have p1 : ∀ args, pureV ftM (.fn (.func 111) [] []) args = none := fun _ => rfl
  have p2 : ∀ args, pureV ftM (.tup [.fn (.func 111) [] []]) args = some (false, []) := fun _ => rfl
  have p3 : ∀ id n, pureV ftM (.fn (.func 110) [] []) [.sl id 0 n] = some (true, [id]) := fun _ _ => rfl
  have sp : sidP [(0, .agg [.sc (.int .i64 x.1), .sc (.int .i64 x.2)])] = some [] := rfl
  by_cases h0 : cleanM l = []
  · rw [h0] at kc ko
    by_cases hy : addB l x = true
    · have hy' := hy
      unfold addB at hy'
      rw [h0, Bool.and_eq_true] at hy'
      have e2 : (0 ≤ overI [] x) = False := eq_false (by simpa using hy'.2)
      rw [hy'.1] at km
      have em : addM l x = joinM ([] ++ [x]) := by unfold addM; rw [if_pos hy, h0]
      have hm := addB_may (l := []) hy'.1
      have hc0 : cleanM [] = [] := rfl
      rw [hc0] at hm
      have kj := fun Q => @kM_of _ _ Q _ _ _ (s110 ([] ++ [x]) (by simp) hm (args := [.sl 2 0 1]) (H := hx Heap.empty [.box false (runC x), .row false 2 [runC x], .row false 2 [runC x], .dead]) rfl)
      simp only [runC, int] at kj
      rw [em, hy]
      simp only [↓vp, vq0, vq1, vq2, vq3, vr0, vr1, vr2, vr3, vr4, vr5, vr6, vr7, vr8, vr9, vr10, vr11, vr12, vr13, vr14, vr15, vr16, vr17, vr18, vr19, vr20, vr21, vr22, vr23, vr24, vr25, vr26, vr27, vr28, vr29, vr30, vr31, vr32, vr33, vr34, opS, fpS, extO, okP, pack, nAl, allocA, shId, leaves, fillA, fillR, splice, Nat.reduceLT, Nat.reduceEqDiff, Nat.reduceLeDiff, Nat.reduceAdd, Nat.reduceSub, Nat.reduceMul, Int.reduceBEq, Int.reduceBNe, Int.reduceLT, Int.reduceLE, Int.reduceEq, reduceIte, reduceCtorEq, da, int, boolA, RetP_go, resT, resC, resN, retV1, retV2, retV3, retV0, frzFZ, takeM, Option.some.injEq, dr, runC, km, kc, ko, k0, e2, ge_iff_le, appA_emp, kj, p1, p2, p3, sp, mkFQ_n, exFQ_ext, compat_el, Option.isSome_some, all_cons', all_nil']
    · have em : addM l x = [] := by unfold addM; rw [if_neg hy, h0]
      have ef : addB l x = false := by simpa using hy
      rw [em, ef]
      unfold addB at ef
      rw [h0] at ef
      cases e : mayM x with
      | false =>
        rw [e] at km
        simp only [↓vp, vq0, vq1, vq2, vq3, vr0, vr1, vr2, vr3, vr4, vr5, vr6, vr7, vr8, vr9, vr10, vr11, vr12, vr13, vr14, vr15, vr16, vr17, vr18, vr19, vr20, vr21, vr22, vr23, vr24, vr25, vr26, vr27, vr28, vr29, vr30, vr31, vr32, vr33, vr34, opS, fpS, extO, okP, pack, nAl, allocA, shId, leaves, fillA, fillR, splice, Nat.reduceLT, Nat.reduceEqDiff, Nat.reduceLeDiff, Nat.reduceAdd, Nat.reduceSub, Nat.reduceMul, Int.reduceBEq, Int.reduceBNe, Int.reduceLT, Int.reduceLE, Int.reduceEq, reduceIte, reduceCtorEq, da, int, boolA, RetP_go, resT, resC, resN, retV1, retV2, retV3, retV0, frzFZ, takeM, Option.some.injEq, dr, runC, km, kc, ko, k0, ge_iff_le, vemp]
        rfl
      | true =>
        rw [e] at km ef
        have e2 : (0 ≤ overI [] x) = True := eq_true (by simpa using ef)
        simp only [↓vp, vq0, vq1, vq2, vq3, vr0, vr1, vr2, vr3, vr4, vr5, vr6, vr7, vr8, vr9, vr10, vr11, vr12, vr13, vr14, vr15, vr16, vr17, vr18, vr19, vr20, vr21, vr22, vr23, vr24, vr25, vr26, vr27, vr28, vr29, vr30, vr31, vr32, vr33, vr34, opS, fpS, extO, okP, pack, nAl, allocA, shId, leaves, fillA, fillR, splice, Nat.reduceLT, Nat.reduceEqDiff, Nat.reduceLeDiff, Nat.reduceAdd, Nat.reduceSub, Nat.reduceMul, Int.reduceBEq, Int.reduceBNe, Int.reduceLT, Int.reduceLE, Int.reduceEq, reduceIte, reduceCtorEq, da, int, boolA, RetP_go, resT, resC, resN, retV1, retV2, retV3, retV0, frzFZ, takeM, Option.some.injEq, dr, runC, km, kc, ko, k0, e2, ge_iff_le, vemp]
        rfl
  · have kn := fun K L Q => @kcloR ftM rfl (cleanM l) h0 (by omega) K L Q
    by_cases hy : addB l x = true
    · have hy' := hy
      unfold addB at hy'
      rw [Bool.and_eq_true] at hy'
      have e2 : (0 ≤ overI (cleanM l) x) = False := eq_false (by simpa using hy'.2)
      rw [hy'.1] at km
      have em : addM l x = joinM (cleanM l ++ [x]) := by unfold addM; rw [if_pos hy]
      have hm := addB_may (l := l) hy'.1
      have d2 : (((cleanM l).length + 1) * 16 ≤ 140737488355328) = True := eq_true (by omega)
      have d3 : ((cleanM l).length + 1 ≤ (cleanM l).length) = False := eq_false (by omega)
      have tk : ((cleanM l).map runC).take (cleanM l).length = (cleanM l).map runC := List.take_of_length_le (by simp)
      have hz : frzCells (hx Heap.empty [.box false (runC x), .row false 2 [runC x], .row false 2 ((cleanM l).map runC ++ [runC x]), .dead, .dead]) [.sl 2 0 ((cleanM l).length + 1)] = some ([encR (cleanM l ++ [x])], hx Heap.empty [.box false (runC x), .row false 2 [runC x], .row true 2 ((cleanM l).map runC ++ [runC x]), .dead, .dead]) := by
        have e : ((cleanM l).map runC ++ [runC x]).take ((cleanM l).length + 1) = (cleanM l ++ [x]).map runC := by
          rw [List.take_of_length_le (by simp), List.map_append]
          rfl
        have e3 : (cleanM l).length + 1 ≤ ((cleanM l).map runC ++ [runC x]).length := by simp
        show frz.frzL 24 _ _ = _
        simp only [frz.frzL, frz, hxe_get', List.getElem?_cons_succ, List.getElem?_cons_zero, Nat.zero_add, List.drop_zero, e, if_pos e3, hxe_set]
        rfl
      have kj := fun Q => @kM_of _ _ Q _ _ _ (s110 (cleanM l ++ [x]) (by simp; omega) hm hz)
      simp only [runC, int] at kj
      rw [em, hy]
      simp only [↓vp, vq0, vq1, vq2, vq3, vr0, vr1, vr2, vr3, vr4, vr5, vr6, vr7, vr8, vr9, vr10, vr11, vr12, vr13, vr14, vr15, vr16, vr17, vr18, vr19, vr20, vr21, vr22, vr23, vr24, vr25, vr26, vr27, vr28, vr29, vr30, vr31, vr32, vr33, vr34, opS, fpS, extO, okP, pack, nAl, allocA, shId, leaves, fillA, fillR, splice, Nat.reduceLT, Nat.reduceEqDiff, Nat.reduceLeDiff, Nat.reduceAdd, Nat.reduceSub, Nat.reduceMul, Int.reduceBEq, Int.reduceBNe, Int.reduceLT, Int.reduceLE, Int.reduceEq, reduceIte, reduceCtorEq, da, int, boolA, RetP_go, resT, resC, resN, retV1, retV2, retV3, retV0, frzFZ, takeM, Option.some.injEq, dr, runC, km, kc, ko, kn, e2, ge_iff_le, kj, p1, p2, p3, sp, mkFQ_n, exFQ_ext, compat_el, Option.isSome_some, all_cons', all_nil', d2, d3, tk]
    · have em : addM l x = cleanM l := by unfold addM; rw [if_neg hy]
      have ef : addB l x = false := by simpa using hy
      rw [em, ef]
      unfold addB at ef
      cases e : mayM x with
      | false =>
        rw [e] at km
        simp only [↓vp, vq0, vq1, vq2, vq3, vr0, vr1, vr2, vr3, vr4, vr5, vr6, vr7, vr8, vr9, vr10, vr11, vr12, vr13, vr14, vr15, vr16, vr17, vr18, vr19, vr20, vr21, vr22, vr23, vr24, vr25, vr26, vr27, vr28, vr29, vr30, vr31, vr32, vr33, vr34, opS, fpS, extO, okP, pack, nAl, allocA, shId, leaves, fillA, fillR, splice, Nat.reduceLT, Nat.reduceEqDiff, Nat.reduceLeDiff, Nat.reduceAdd, Nat.reduceSub, Nat.reduceMul, Int.reduceBEq, Int.reduceBNe, Int.reduceLT, Int.reduceLE, Int.reduceEq, reduceIte, reduceCtorEq, da, int, boolA, RetP_go, resT, resC, resN, retV1, retV2, retV3, retV0, frzFZ, takeM, Option.some.injEq, dr, runC, km, kc, ko, kn, ge_iff_le, vemp]
        rfl
      | true =>
        rw [e] at km ef
        have e2 : (0 ≤ overI (cleanM l) x) = True := eq_true (by simpa using ef)
        simp only [↓vp, vq0, vq1, vq2, vq3, vr0, vr1, vr2, vr3, vr4, vr5, vr6, vr7, vr8, vr9, vr10, vr11, vr12, vr13, vr14, vr15, vr16, vr17, vr18, vr19, vr20, vr21, vr22, vr23, vr24, vr25, vr26, vr27, vr28, vr29, vr30, vr31, vr32, vr33, vr34, opS, fpS, extO, okP, pack, nAl, allocA, shId, leaves, fillA, fillR, splice, Nat.reduceLT, Nat.reduceEqDiff, Nat.reduceLeDiff, Nat.reduceAdd, Nat.reduceSub, Nat.reduceMul, Int.reduceBEq, Int.reduceBNe, Int.reduceLT, Int.reduceLE, Int.reduceEq, reduceIte, reduceCtorEq, da, int, boolA, RetP_go, resT, resC, resN, retV1, retV2, retV3, retV0, frzFZ, takeM, Option.some.injEq, dr, runC, km, kc, ko, kn, e2, ge_iff_le, vemp]
        rfl
theorem k50 {l : List RunM} (hl : l.length ≤ 1000) {x : RunM} {K : Heap} {L : List Blk} {Q : AV → Heap → Prop} : KW ftM (.fn (.func 50) [] []) [encR l, .agg (runC x)] (hx K L) Q ↔ Q (.tup [encR (addM l x), boolA (addB l x)]) (hx K L) := KW_of (s50 l hl x _)
def meetF (b : List RunM) : AV := .fn (.func 115) [] [.pim [[encR b]] 0 0]
theorem s115 (b : List RunM) (hb : b.length ≤ 1000000) (y : RunM) (H : Heap) : callL ftM (meetF b) [.agg (runC y)] H = some (boolA (decide (0 ≤ overI b y)), H) := by
  refine call_p (as' := [.agg (runC y), .pim [[encR b]] 0 0]) rfl rfl (by simp) ?_
  unfold c115 r115
  have cp : ∀ H, cellsAt H (.pim [[encR b]] 0 0) 1 = some [encR b] := fun _ => rfl
  have ko := fun K L Q => @k109l b hb y K L Q
  simp only [runC, int] at ko
  simp only [↓vp, vq0, vq1, vq2, vq3, vr0, vr1, vr2, vr3, vr4, vr5, vr6, vr7, vr8, vr9, vr10, vr11, vr12, vr13, vr14, vr15, vr16, vr17, vr18, vr19, vr20, vr21, vr22, vr23, vr24, vr25, vr26, vr27, vr28, vr29, vr30, vr31, vr32, vr33, vr34, opS, fpS, extO, okP, pack, nAl, allocA, shId, leaves, fillA, fillR, splice, Nat.reduceLT, Nat.reduceEqDiff, Nat.reduceLeDiff, Nat.reduceAdd, Nat.reduceSub, Nat.reduceMul, Int.reduceBEq, Int.reduceBNe, Int.reduceLT, Int.reduceLE, Int.reduceEq, reduceIte, reduceCtorEq, da, int, boolA, RetP_go, resT, resC, resN, retV1, retV2, retV3, retV0, frzFZ, takeM, Option.some.injEq, dr, runC, cp, ko]
def meetM (a b : List RunM) : Bool := (cleanM a).any fun y => decide (0 ≤ overI (cleanM b) y)
theorem s53 (a b : List RunM) (ha : a.length ≤ 1000000) (hb : b.length ≤ 1000000) (H : Heap) : callL ftM (.fn (.func 53) [] []) [encR a, encR b] H = some (boolA (meetM a b), H) := by
  refine call_p (as' := [encR a, encR b]) rfl rfl (by simp) ?_
  unfold c53 r53 meetM
  have h1 := cleanM_len a
  have h2 := cleanM_len b
  have ka := fun K L Q => @kM_of _ _ Q _ _ _ (s105 a ha (hx K L))
  have kb := fun K L Q => @kM_of _ _ Q _ _ _ (s105 b hb (hx K L))
  have kk := fun Q => @KW_of ftM _ _ _ Q _ _ (s114 (T := ftM) rfl rfl (cleanM a) (by omega) (meetF (cleanM b)) (fun _ => rfl) (fun y => decide (0 ≤ overI (cleanM b) y)) (fun y _ K L Q => KW_of (s115 (cleanM b) (by omega) y _))
    (args := [encR (cleanM a), .fn (.func 115) [] [.ptr 0 0 0]]) (H := hx Heap.empty [.box false [encR (cleanM b)]]) (H1 := hx Heap.empty [.box true [encR (cleanM b)]]) rfl)
  simp only [↓vp, vq0, vq1, vq2, vq3, vr0, vr1, vr2, vr3, vr4, vr5, vr6, vr7, vr8, vr9, vr10, vr11, vr12, vr13, vr14, vr15, vr16, vr17, vr18, vr19, vr20, vr21, vr22, vr23, vr24, vr25, vr26, vr27, vr28, vr29, vr30, vr31, vr32, vr33, vr34, opS, fpS, extO, okP, pack, nAl, allocA, shId, leaves, fillA, fillR, splice, Nat.reduceLT, Nat.reduceEqDiff, Nat.reduceLeDiff, Nat.reduceAdd, Nat.reduceSub, Nat.reduceMul, Int.reduceBEq, Int.reduceBNe, Int.reduceLT, Int.reduceLE, Int.reduceEq, reduceIte, reduceCtorEq, da, int, boolA, RetP_go, resT, resC, resN, retV1, retV2, retV3, retV0, frzFZ, takeM, Option.some.injEq, dr, ka, kb, kk]
theorem k53 {a b : List RunM} (ha : a.length ≤ 1000000) (hb : b.length ≤ 1000000) {K : Heap} {L : List Blk} {Q : AV → Heap → Prop} : KW ftM (.fn (.func 53) [] []) [encR a, encR b] (hx K L) Q ↔ Q (boolA (meetM a b)) (hx K L) := KW_of (s53 a b ha hb _)
end Go.VI

set_option linter.unusedVariables false
set_option linter.unusedSimpArgs false
set_option maxRecDepth 100000
namespace Go.VI
attribute [local congr] AW_congr OW_congr DW_congr NW_congr VW_congr GW_congr PW_congr KW_congr ite_congr' GV_congr CV_congr
def nzR (x : RunM) : Bool := !decide (x.2 = 0)
theorem filter_take {ps : List RunM} {i : Nat} (h : i < ps.length) : (ps.take (i + 1)).filter nzR = if ps[i].2 = 0 then (ps.take i).filter nzR else (ps.take i).filter nzR ++ [ps[i]] := by
  rw [List.take_succ_eq_append_getElem h, List.filter_append]
  by_cases e : ps[i].2 = 0 <;> simp [nzR, e]
theorem l51 (ps : List RunM) (hl : ps.length ≤ 1000) (o idl : Nat) (hid : idl ≤ o) (rows : List RunM) (A B : AV) {Q : AExit → Env → Heap → Prop}
   (hex : ∀ f' K S, RepB (o + 1) K 2 S ((ps.filter nzR).map runC) → K.get idl = some (.row false 2 (rows.map runC)) → f' 0 = A → f' 6 = B → f' 7 = S → Q (.exit 0) (mkE 91 f') (hx K [])) :
   ∀ (d i : Nat) (S : AV) (K : Heap) (f : Nat → AV), i + d = ps.length → RepB (o + 1) K 2 S (((ps.take i).filter nzR).map runC) → K.get o = some (.row false 2 (ps.map runC)) → K.get idl = some (.row false 2 (rows.map runC)) →
    f 0 = A → f 6 = B → f 7 = S → f 69 = .sl o 0 ps.length → f 70 = int ps.length → f 71 = int i →
    AW ftM (.loop c51L0) (mkE 91 f) (hx K []) Q := by
  intro d
  induction d with
  | zero =>
    intro i S K f hd hr ho hi h0 h6 h7 h69 h70 h71
    have g : ((i : Int) < ps.length) = False := by simp; omega
    rw [AW_loop]
    unfold c51L0
    rw [List.take_of_length_le (by omega)] at hr
    simp only [↓vp, vq0, vq1, vq2, vq3, vr0, vr1, vr2, vr3, vr4, vr5, vr6, vr7, vr8, vr9, vr10, vr11, vr12, vr13, vr14, vr15, vr16, vr17, vr18, vr19, vr20, vr21, vr22, vr23, vr24, vr25, vr26, vr27, vr28, vr29, vr30, vr31, vr32, vr33, vr34, opS, fpS, extO, okP, pack, nAl, allocA, shId, leaves, fillA, fillR, splice, Nat.reduceLT, Nat.reduceEqDiff, Nat.reduceLeDiff, Nat.reduceAdd, Nat.reduceSub, Nat.reduceMul, Int.reduceBEq, Int.reduceBNe, Int.reduceLT, Int.reduceLE, Int.reduceEq, reduceIte, reduceCtorEq, da, int, boolA, h70, h71, g]
    refine hex _ K S hr hi ?_ ?_ ?_ <;> simp only [↓vp, vq0, vq1, vq2, vq3, vr0, vr1, vr2, vr3, vr4, vr5, vr6, vr7, vr8, vr9, vr10, vr11, vr12, vr13, vr14, vr15, vr16, vr17, vr18, vr19, vr20, vr21, vr22, vr23, vr24, vr25, vr26, vr27, vr28, vr29, vr30, vr31, vr32, vr33, vr34, opS, fpS, extO, okP, pack, nAl, allocA, shId, leaves, fillA, fillR, splice, Nat.reduceLT, Nat.reduceEqDiff, Nat.reduceLeDiff, Nat.reduceAdd, Nat.reduceSub, Nat.reduceMul, Int.reduceBEq, Int.reduceBNe, Int.reduceLT, Int.reduceLE, Int.reduceEq, reduceIte, reduceCtorEq, da, int, boolA, h0, h6, h7]
  | succ d ih =>
    intro i S K f hd hr ho hi h0 h6 h7 h69 h70 h71
    have g1 : ((i : Int) < ps.length) = True := by simp; omega
    have gi : i < ps.length := by omega
    have w1 := wrap_succ (show i < 9223372036854775807 by omega)
    have ht := filter_take gi
    have hlen : ((ps.take i).filter nzR).length ≤ 1000 := by have := List.length_filter_le nzR (ps.take i); simp at this; omega
    have lo := Heap.get_lt ho
    have ia := fun L => ia_rr (H := hx K L) (get_old ho L) gi
    have ca := fun L off n => c_rr (H := hx K L) (off := off) (n := n) (get_old ho L) gi
    have ap := fun nid L => appA_rep (nid := nid) (bytes := 16) hr.rep (xs := [runC ps[i]]) (by simp) rfl (by simp; omega) L
    rw [List.length_map] at ap
    simp only [runC, int, List.length_singleton] at ap
    rw [AW_loop]
    unfold c51L0
    by_cases e : ps[i].2 = 0
    · have hs : eqsA [0, 0] [.sc (.int .i64 ps[i].1), .sc (.int .i64 ps[i].2)] [.sc (.int .i64 ps[i].1), .sc (.int .i64 0)] = some true := by
        simp [eqsA, scEq, e]
      rw [if_pos e] at ht
      simp only [↓vp, vq0, vq1, vq2, vq3, vr0, vr1, vr2, vr3, vr4, vr5, vr6, vr7, vr8, vr9, vr10, vr11, vr12, vr13, vr14, vr15, vr16, vr17, vr18, vr19, vr20, vr21, vr22, vr23, vr24, vr25, vr26, vr27, vr28, vr29, vr30, vr31, vr32, vr33, vr34, opS, fpS, extO, okP, pack, nAl, allocA, shId, leaves, fillA, fillR, splice, Nat.reduceLT, Nat.reduceEqDiff, Nat.reduceLeDiff, Nat.reduceAdd, Nat.reduceSub, Nat.reduceMul, Int.reduceBEq, Int.reduceBNe, Int.reduceLT, Int.reduceLE, Int.reduceEq, reduceIte, reduceCtorEq, da, int, boolA, dr, h7, h69, h70, h71, g1, ia, ca, runC, hs, w1]
      rw [← hx_nil (hx _ _)]
      refine ih (i + 1) S _ _ (by omega) ?_ (get_old ho _) (get_old hi _) ?_ ?_ ?_ ?_ ?_ ?_
      · rw [ht]
        exact hr.mono fun id _ h => get_old h _
      all_goals simp only [↓vp, vq0, vq1, vq2, vq3, vr0, vr1, vr2, vr3, vr4, vr5, vr6, vr7, vr8, vr9, vr10, vr11, vr12, vr13, vr14, vr15, vr16, vr17, vr18, vr19, vr20, vr21, vr22, vr23, vr24, vr25, vr26, vr27, vr28, vr29, vr30, vr31, vr32, vr33, vr34, opS, fpS, extO, okP, pack, nAl, allocA, shId, leaves, fillA, fillR, splice, Nat.reduceLT, Nat.reduceEqDiff, Nat.reduceLeDiff, Nat.reduceAdd, Nat.reduceSub, Nat.reduceMul, Int.reduceBEq, Int.reduceBNe, Int.reduceLT, Int.reduceLE, Int.reduceEq, reduceIte, reduceCtorEq, da, int, boolA, h0, h6, h7, h69, h70]
    · have hs : eqsA [0, 0] [.sc (.int .i64 ps[i].1), .sc (.int .i64 ps[i].2)] [.sc (.int .i64 ps[i].1), .sc (.int .i64 0)] = some false := by
        simp [eqsA, scEq, e]
      rw [if_neg e] at ht
      simp only [↓vp, vq0, vq1, vq2, vq3, vr0, vr1, vr2, vr3, vr4, vr5, vr6, vr7, vr8, vr9, vr10, vr11, vr12, vr13, vr14, vr15, vr16, vr17, vr18, vr19, vr20, vr21, vr22, vr23, vr24, vr25, vr26, vr27, vr28, vr29, vr30, vr31, vr32, vr33, vr34, opS, fpS, extO, okP, pack, nAl, allocA, shId, leaves, fillA, fillR, splice, Nat.reduceLT, Nat.reduceEqDiff, Nat.reduceLeDiff, Nat.reduceAdd, Nat.reduceSub, Nat.reduceMul, Int.reduceBEq, Int.reduceBNe, Int.reduceLT, Int.reduceLE, Int.reduceEq, reduceIte, reduceCtorEq, da, int, boolA, dr, h7, h69, h70, h71, g1, ia, ca, runC, hs, w1, ap, kill_next]
      rw [← hx_nil (hx _ _)]
      refine ih (i + 1) (.sl (K.next + 2) 0 (((ps.take i).filter nzR).length + 1)) _ _ (by omega) (.inr ⟨K.next + 2, by omega, ?_, ?_⟩) (get_old (kill_keep hr ho) _) (get_old (kill_keep hr hi) _) ?_ ?_ ?_ ?_ ?_ ?_
      · rw [ht]
        simp
      · rw [ht]
        simp only [↓vp, vq0, vq1, vq2, vq3, vr0, vr1, vr2, vr3, vr4, vr5, vr6, vr7, vr8, vr9, vr10, vr11, vr12, vr13, vr14, vr15, vr16, vr17, vr18, vr19, vr20, vr21, vr22, vr23, vr24, vr25, vr26, vr27, vr28, vr29, vr30, vr31, vr32, vr33, vr34, opS, fpS, extO, okP, pack, nAl, allocA, shId, leaves, fillA, fillR, splice, Nat.reduceLT, Nat.reduceEqDiff, Nat.reduceLeDiff, Nat.reduceAdd, Nat.reduceSub, Nat.reduceMul, Int.reduceBEq, Int.reduceBNe, Int.reduceLT, Int.reduceLE, Int.reduceEq, reduceIte, reduceCtorEq, kill_next, List.map_append]
        rfl
      all_goals simp only [↓vp, vq0, vq1, vq2, vq3, vr0, vr1, vr2, vr3, vr4, vr5, vr6, vr7, vr8, vr9, vr10, vr11, vr12, vr13, vr14, vr15, vr16, vr17, vr18, vr19, vr20, vr21, vr22, vr23, vr24, vr25, vr26, vr27, vr28, vr29, vr30, vr31, vr32, vr33, vr34, opS, fpS, extO, okP, pack, nAl, allocA, shId, leaves, fillA, fillR, splice, Nat.reduceLT, Nat.reduceEqDiff, Nat.reduceLeDiff, Nat.reduceAdd, Nat.reduceSub, Nat.reduceMul, Int.reduceBEq, Int.reduceBNe, Int.reduceLT, Int.reduceLE, Int.reduceEq, reduceIte, reduceCtorEq, da, int, boolA, h0, h6, h69, h70]
theorem vRows_rep {B : Nat} {K : Heap} {S : AV} {l : List RunM} (h : RepB B K 2 S (l.map runC)) {n : Nat} (hn : n < B ∨ K.next ≤ n) : vRows K n S = some (l.map runC) := by
  rcases h with ⟨rfl, h⟩ | ⟨id, hb, rfl, hg⟩
  · rw [h]; rfl
  · have hlt := Heap.get_lt hg
    have hne : id ≠ n := by omega
    have hu : rowU K (.sl id 0 (l.map runC).length) = true := by simp [rowU, hg]
    show (if id ≠ n ∧ rowU K (.sl id 0 (l.map runC).length) = true then rowsOf K (.sl id 0 (l.map runC).length) else none) = _
    rw [if_pos ⟨hne, hu⟩, rowsOf_sl, hg]
    simp only [Nat.zero_add, Nat.le_refl, if_true, List.drop_zero, List.take_length]
/-- A run's place is taken by others. -/
def putR (rows : List RunM) (k : Nat) (xs : List RunM) : List RunM := rows.take k ++ xs ++ rows.drop (k + 1)
theorem krepR {K : Heap} {B id k : Nat} {S : AV} {rows xs : List RunM} (hi : K.get id = some (.row false 2 (rows.map runC))) (hb : id < B) (hS : RepB B K 2 S (xs.map runC)) (hk : k < rows.length) (hl : rows.length ≤ 1000) (hx1 : xs.length ≤ 1000) {Q : AV → Heap → Prop}
   (hq : ∀ K', K'.get K.next = some (.row false 2 ((putR rows k xs).map runC)) → Q (.sl K.next 0 (putR rows k xs).length) K') :
    KW ftM (.fn (.func 112) [] []) [.sl id 0 rows.length, .sc (.int .i64 (k : Int)), .sc (.int .i64 ((k + 1 : Nat) : Int)), S] K Q := by
  have hlt := Heap.get_lt hi
  have e0 : repP 2 16 [.sl id 0 rows.length, .sc (.int .i64 (k : Int)), .sc (.int .i64 ((k + 1 : Nat) : Int)), S] K = some (.sl K.next 0 (putR rows k xs).length, (K.set id .dead).put K.next (.row false 2 ((putR rows k xs).map runC))) := by
    unfold repP cutP
    simp only [hi, vRows_rep hS (.inl hb), Option.bind_some]
    rw [if_pos ⟨trivial, by decide, by simp, by omega, by omega, by omega, allR xs, by simp; omega⟩]
    have e1 : ((rows.map runC).take rows.length).take (k : Int).toNat ++ xs.map runC ++ ((rows.map runC).take rows.length).drop ((k + 1 : Nat) : Int).toNat = (putR rows k xs).map runC := by
      have tk : (rows.map runC).take rows.length = rows.map runC := List.take_of_length_le (by simp)
      rw [tk]
      simp [putR]
    rw [e1, List.length_map]
    simp only [Nat.add_zero, List.replicate_zero, hx_nil]
  refine (k_prim (p := repP 2 16) rfl e0 ?_).2 (hq _ ?_)
  · have := Heap.next_put_le (K.set id .dead) (.row false 2 ((putR rows k xs).map runC)) K.next
    rwa [Heap.next_set] at this
  · exact Heap.get_put_self _ (by rw [Heap.next_set]; exact Nat.le_refl _)
/-- What is dropped, or that it can't be. -/
def dropK (l : List RunM) (x : RunM) : Nat := (overI l x).toNat
def dropB (l : List RunM) (x : RunM) : Bool := mayM x && decide (0 ≤ overI (cleanM l) x) &&
  (match (cleanM l)[dropK (cleanM l) x]? with
    | some y => decide (y.1 ≤ x.1) && decide (endM x ≤ endM y)
    | none => false)
def dropP (y x : RunM) : List RunM := [(y.1, x.1 - y.1), (endM x, endM y - endM x)]
def dropM (l : List RunM) (x : RunM) : List RunM := if dropB l x then
  (match (cleanM l)[dropK (cleanM l) x]? with
    | some y => putR (cleanM l) (dropK (cleanM l) x) ((dropP y x).filter nzR)
    | none => cleanM l) else cleanM l
theorem overI_lt (l : List RunM) (x : RunM) (h : 0 ≤ overI l x) : overI l x = (dropK l x : Int) ∧ dropK l x < l.length := by
  unfold dropK
  have := (idxM_neg (overB x) l 0).2
  unfold overI at h ⊢
  omega
theorem frz_rowb {K : Heap} {id : Nat} {rows : List RunM} (hg : K.get id = some (.row false 2 (rows.map runC))) (b : Bool) : ∃ H', frz FZ (hx K []) (.tup [.sl id 0 rows.length, .sc (.bool b)]) = some (.tup [encR rows, boolA b], H') := by
  have e : (rows.map runC).take rows.length = rows.map runC := List.take_of_length_le (by simp)
  have e3 : rows.length ≤ (rows.map runC).length := by simp
  refine ⟨K.set id (.row true 2 (rows.map runC)), ?_⟩
  rw [hx_nil]
  show frz 24 _ _ = _
  simp only [frz, frz.frzL, hg, Nat.zero_add, List.drop_zero, e, if_pos e3]
  rfl
theorem s51z (l : List RunM) (hl : l.length ≤ 1000) (x : RunM) {args : List AV} {H H1 : Heap} (hz : frzCells H args = some ([encR l, .agg (runC x)], H1)) : callL ftM (.fn (.func 51) [] []) args H = some (.tup [encR (dropM l x), boolA (dropB l x)], H1) := by
  refine call_p (as' := [encR l, .agg (runC x)]) rfl (by simpa using hz) (by simp) ?_
  clear hz
  unfold c51 r51
  have h1 := cleanM_len l
  have km := fun K L Q => @kM_of _ _ Q _ _ _ (s106 x (hx K L))
  have kc := fun K L Q => @kM_of _ _ Q _ _ _ (s105 l (by omega) (hx K L))
  have kx := fun K L Q => @kM_of _ _ Q _ _ _ (s107w x (hx K L))
  have px : pureV ftM (.fn (.func 107) [] []) [.agg (runC x)] = some (false, []) := rfl
  simp only [runC, int] at km kx px
  by_cases h0 : cleanM l = []
  · have k0 := fun K L Q => @kcloR0 ftM rfl K L Q
    have ko := fun K L Q => @k109 [] (by simp) x .emp (hx K L) (hx K L) rfl Q
    rw [h0] at kc
    have e1 : overI [] x = -1 := rfl
    have ed : dropB l x = false := by unfold dropB; rw [h0, e1]; simp
    have em : dropM l x = [] := by unfold dropM; rw [ed, h0]; simp
    rw [ed, em]
    rw [e1] at ko
    simp only [runC, int] at ko
    cases e : mayM x with
    | false =>
      rw [e] at km
      simp only [↓vp, vq0, vq1, vq2, vq3, vr0, vr1, vr2, vr3, vr4, vr5, vr6, vr7, vr8, vr9, vr10, vr11, vr12, vr13, vr14, vr15, vr16, vr17, vr18, vr19, vr20, vr21, vr22, vr23, vr24, vr25, vr26, vr27, vr28, vr29, vr30, vr31, vr32, vr33, vr34, opS, fpS, extO, okP, pack, nAl, allocA, shId, leaves, fillA, fillR, splice, Nat.reduceLT, Nat.reduceEqDiff, Nat.reduceLeDiff, Nat.reduceAdd, Nat.reduceSub, Nat.reduceMul, Int.reduceBEq, Int.reduceBNe, Int.reduceLT, Int.reduceLE, Int.reduceEq, reduceIte, reduceCtorEq, da, int, boolA, RetP_go, resT, resC, resN, retV1, retV2, retV3, retV0, frzFZ, takeM, Option.some.injEq, dr, runC, km, kc, ko, k0, vemp]
      rfl
    | true =>
      rw [e] at km
      simp only [↓vp, vq0, vq1, vq2, vq3, vr0, vr1, vr2, vr3, vr4, vr5, vr6, vr7, vr8, vr9, vr10, vr11, vr12, vr13, vr14, vr15, vr16, vr17, vr18, vr19, vr20, vr21, vr22, vr23, vr24, vr25, vr26, vr27, vr28, vr29, vr30, vr31, vr32, vr33, vr34, opS, fpS, extO, okP, pack, nAl, allocA, shId, leaves, fillA, fillR, splice, Nat.reduceLT, Nat.reduceEqDiff, Nat.reduceLeDiff, Nat.reduceAdd, Nat.reduceSub, Nat.reduceMul, Int.reduceBEq, Int.reduceBNe, Int.reduceLT, Int.reduceLE, Int.reduceEq, reduceIte, reduceCtorEq, da, int, boolA, RetP_go, resT, resC, resN, retV1, retV2, retV3, retV0, frzFZ, takeM, Option.some.injEq, dr, runC, km, kc, ko, k0, vemp]
      rfl
  · have kn := fun K L Q => @kcloR ftM rfl (cleanM l) h0 (by omega) K L Q
    generalize hcl : cleanM l = c at *
    have hlen : c.length ≤ 1000 := by omega
    have hcm : ∀ y ∈ c, mayM y = true := by rw [← hcl]; exact clean_may l
    have hz : frzCells (hx Heap.empty [.box false (runC x), .dead, .row false 2 (c.map runC)]) [.sl 2 0 c.length, .agg (runC x)] = some ([encR c, .agg (runC x)], hx Heap.empty [.box false (runC x), .dead, .row true 2 (c.map runC)]) := by
      have e : (c.map runC).take c.length = c.map runC := List.take_of_length_le (by simp)
      have e3 : c.length ≤ (c.map runC).length := by simp
      show frz.frzL 24 _ _ = _
      simp only [frz.frzL, frz, hxe_get', List.getElem?_cons_succ, List.getElem?_cons_zero, Nat.zero_add, List.drop_zero, e, if_pos e3, hxe_set]
      rfl
    have ko := fun Q => @k109 c (by omega) x _ _ _ hz Q
    simp only [runC, int] at ko
    have gR : (hx Heap.empty [.box false [.sc (.int .i64 x.1), .sc (.int .i64 x.2)], .dead, .row false 2 (c.map runC)]).get 2 = some (.row false 2 (c.map runC)) := rfl
    have no : dropB l x = false → dropM l x = c := fun e => by unfold dropM; rw [e, hcl]; rfl
    have fz : ∀ b : Bool, ∃ H', frz FZ (hx Heap.empty [.box false [.sc (.int .i64 x.1), .sc (.int .i64 x.2)], .dead, .row false 2 (c.map runC)]) (.tup [.sl 2 0 c.length, .sc (.bool b)]) = some (.tup [encR c, boolA b], H') := fun b => by
      have e : (c.map runC).take c.length = c.map runC := List.take_of_length_le (by simp)
      have e3 : c.length ≤ (c.map runC).length := by simp
      refine ⟨hx Heap.empty [.box false [.sc (.int .i64 x.1), .sc (.int .i64 x.2)], .dead, .row true 2 (c.map runC)], ?_⟩
      show frz 24 _ _ = _
      simp only [frz, frz.frzL, hxe_get', List.getElem?_cons_succ, List.getElem?_cons_zero, Nat.zero_add, List.drop_zero, e, if_pos e3, hxe_set]
      rfl
    cases e : mayM x with
    | false =>
      have ed : dropB l x = false := by unfold dropB; rw [e]; rfl
      rw [e] at km
      rw [ed, no ed]
      simp only [↓vp, vq0, vq1, vq2, vq3, vr0, vr1, vr2, vr3, vr4, vr5, vr6, vr7, vr8, vr9, vr10, vr11, vr12, vr13, vr14, vr15, vr16, vr17, vr18, vr19, vr20, vr21, vr22, vr23, vr24, vr25, vr26, vr27, vr28, vr29, vr30, vr31, vr32, vr33, vr34, opS, fpS, extO, okP, pack, nAl, allocA, shId, leaves, fillA, fillR, splice, Nat.reduceLT, Nat.reduceEqDiff, Nat.reduceLeDiff, Nat.reduceAdd, Nat.reduceSub, Nat.reduceMul, Int.reduceBEq, Int.reduceBNe, Int.reduceLT, Int.reduceLE, Int.reduceEq, reduceIte, reduceCtorEq, da, int, boolA, dr, runC, km, kc, ko, kn]
      refine ret2 rfl (by decide) (by decide) ?_
      simp only [↓vp, vq0, vq1, vq2, vq3, vr0, vr1, vr2, vr3, vr4, vr5, vr6, vr7, vr8, vr9, vr10, vr11, vr12, vr13, vr14, vr15, vr16, vr17, vr18, vr19, vr20, vr21, vr22, vr23, vr24, vr25, vr26, vr27, vr28, vr29, vr30, vr31, vr32, vr33, vr34, opS, fpS, extO, okP, pack, nAl, allocA, shId, leaves, fillA, fillR, splice, Nat.reduceLT, Nat.reduceEqDiff, Nat.reduceLeDiff, Nat.reduceAdd, Nat.reduceSub, Nat.reduceMul, Int.reduceBEq, Int.reduceBNe, Int.reduceLT, Int.reduceLE, Int.reduceEq, reduceIte, reduceCtorEq]
      exact fz false
    | true =>
      rw [e] at km
      have bx := mayM_iff.1 e
      rw [endW_may e] at kx
      by_cases hk : 0 ≤ overI c x
      · obtain ⟨hov, hkl⟩ := overI_lt c x hk
        generalize hkk : dropK c x = k at hov hkl
        have ib := fun L => ia_rr (H := hx (hx Heap.empty [.box false [.sc (.int .i64 x.1), .sc (.int .i64 x.2)], .dead, .row false 2 (c.map runC)]) L) (get_old gR L) hkl
        have cb := fun L off n => c_rr (H := hx (hx Heap.empty [.box false [.sc (.int .i64 x.1), .sc (.int .i64 x.2)], .dead, .row false 2 (c.map runC)]) L) (off := off) (n := n) (get_old gR L) hkl
        simp only [hx_hx] at ib cb
        have ib0 := ib []
        have cb0 := cb []
        have ib1 := ib [.dead]
        have cb1 := cb [.dead]
        simp only [List.append_nil] at ib0 cb0
        simp only [List.cons_append, List.nil_append] at ib1 cb1
        rw [hov] at ko
        have hym := hcm c[k] (List.getElem_mem hkl)
        have by1 := mayM_iff.1 hym
        have ky := fun K L Q => @kM_of _ _ Q _ _ _ (s107 c[k] (may_end hym) (hx K L))
        have py : pureV ftM (.fn (.func 107) [] []) [.agg (runC c[k])] = some (false, []) := rfl
        simp only [runC, int] at ky py
        have d0 : ((k : Int) < 0) = False := eq_false (by omega)
        have edb : dropB l x = (decide (c[k].1 ≤ x.1) && decide (endM x ≤ endM c[k])) := by
          unfold dropB
          rw [hcl, e, decide_eq_true hk, hkk, List.getElem?_eq_getElem hkl]
          rfl
        by_cases q1 : x.1 < c[k].1
        · have ed : dropB l x = false := by rw [edb, decide_eq_false (by omega)]; rfl
          rw [ed, no ed]
          simp only [↓vp, vq0, vq1, vq2, vq3, vr0, vr1, vr2, vr3, vr4, vr5, vr6, vr7, vr8, vr9, vr10, vr11, vr12, vr13, vr14, vr15, vr16, vr17, vr18, vr19, vr20, vr21, vr22, vr23, vr24, vr25, vr26, vr27, vr28, vr29, vr30, vr31, vr32, vr33, vr34, opS, fpS, extO, okP, pack, nAl, allocA, shId, leaves, fillA, fillR, splice, Nat.reduceLT, Nat.reduceEqDiff, Nat.reduceLeDiff, Nat.reduceAdd, Nat.reduceSub, Nat.reduceMul, Int.reduceBEq, Int.reduceBNe, Int.reduceLT, Int.reduceLE, Int.reduceEq, reduceIte, reduceCtorEq, da, int, boolA, dr, runC, km, kc, ko, kn, d0, ib0, cb0, eq_true q1]
          refine ret2 rfl (by decide) (by decide) ?_
          simp only [↓vp, vq0, vq1, vq2, vq3, vr0, vr1, vr2, vr3, vr4, vr5, vr6, vr7, vr8, vr9, vr10, vr11, vr12, vr13, vr14, vr15, vr16, vr17, vr18, vr19, vr20, vr21, vr22, vr23, vr24, vr25, vr26, vr27, vr28, vr29, vr30, vr31, vr32, vr33, vr34, opS, fpS, extO, okP, pack, nAl, allocA, shId, leaves, fillA, fillR, splice, Nat.reduceLT, Nat.reduceEqDiff, Nat.reduceLeDiff, Nat.reduceAdd, Nat.reduceSub, Nat.reduceMul, Int.reduceBEq, Int.reduceBNe, Int.reduceLT, Int.reduceLE, Int.reduceEq, reduceIte, reduceCtorEq]
          exact fz false
        · by_cases q2 : endM x > endM c[k]
          · have ed : dropB l x = false := by rw [edb, decide_eq_false (show ¬ endM x ≤ endM c[k] by omega), Bool.and_false]
            rw [ed, no ed]
            simp only [↓vp, vq0, vq1, vq2, vq3, vr0, vr1, vr2, vr3, vr4, vr5, vr6, vr7, vr8, vr9, vr10, vr11, vr12, vr13, vr14, vr15, vr16, vr17, vr18, vr19, vr20, vr21, vr22, vr23, vr24, vr25, vr26, vr27, vr28, vr29, vr30, vr31, vr32, vr33, vr34, opS, fpS, extO, okP, pack, nAl, allocA, shId, leaves, fillA, fillR, splice, Nat.reduceLT, Nat.reduceEqDiff, Nat.reduceLeDiff, Nat.reduceAdd, Nat.reduceSub, Nat.reduceMul, Int.reduceBEq, Int.reduceBNe, Int.reduceLT, Int.reduceLE, Int.reduceEq, reduceIte, reduceCtorEq, da, int, boolA, dr, runC, km, kc, ko, kn, d0, ib0, cb0, eq_false q1, kx, ky, px, py, eq_true q2]
            refine ret2 rfl (by decide) (by decide) ?_
            simp only [↓vp, vq0, vq1, vq2, vq3, vr0, vr1, vr2, vr3, vr4, vr5, vr6, vr7, vr8, vr9, vr10, vr11, vr12, vr13, vr14, vr15, vr16, vr17, vr18, vr19, vr20, vr21, vr22, vr23, vr24, vr25, vr26, vr27, vr28, vr29, vr30, vr31, vr32, vr33, vr34, opS, fpS, extO, okP, pack, nAl, allocA, shId, leaves, fillA, fillR, splice, Nat.reduceLT, Nat.reduceEqDiff, Nat.reduceLeDiff, Nat.reduceAdd, Nat.reduceSub, Nat.reduceMul, Int.reduceBEq, Int.reduceBNe, Int.reduceLT, Int.reduceLE, Int.reduceEq, reduceIte, reduceCtorEq]
            exact fz false
          · have ed : dropB l x = true := by rw [edb, decide_eq_true (show c[k].1 ≤ x.1 by omega), decide_eq_true (show endM x ≤ endM c[k] by omega)]; rfl
            have em : dropM l x = putR c k ((dropP c[k] x).filter nzR) := by unfold dropM; rw [ed, hcl, hkk, List.getElem?_eq_getElem hkl]; rfl
            have w1 : IntKind.i64.wrap (x.1 - c[k].1) = x.1 - c[k].1 := wrap_i64 (by omega)
            have w2 : IntKind.i64.wrap (endM c[k] - endM x) = endM c[k] - endM x := wrap_i64 (by unfold endM; omega)
            have w3 := wrap_succ (show k < 9223372036854775807 by omega)
            rw [ed, em]
            simp only [↓vp, vq0, vq1, vq2, vq3, vr0, vr1, vr2, vr3, vr4, vr5, vr6, vr7, vr8, vr9, vr10, vr11, vr12, vr13, vr14, vr15, vr16, vr17, vr18, vr19, vr20, vr21, vr22, vr23, vr24, vr25, vr26, vr27, vr28, vr29, vr30, vr31, vr32, vr33, vr34, opS, fpS, extO, okP, pack, nAl, allocA, shId, leaves, fillA, fillR, splice, Nat.reduceLT, Nat.reduceEqDiff, Nat.reduceLeDiff, Nat.reduceAdd, Nat.reduceSub, Nat.reduceMul, Int.reduceBEq, Int.reduceBNe, Int.reduceLT, Int.reduceLE, Int.reduceEq, reduceIte, reduceCtorEq, da, int, boolA, dr, runC, km, kc, ko, kn, d0, ib0, cb0, ib1, cb1, eq_false q1, kx, ky, px, py, eq_false q2, w1, w2]
            rw [← hx_nil (hx _ _)]
            refine l51 (dropP c[k] x) (by simp [dropP]) 3 2 (by omega) c (.sl 2 0 c.length) (int k) (fun f' K S hr hi q0 q6 q7 => ?_) 2 0 (.sc (.slice none 0 0)) _ _ rfl (.inl ⟨rfl, rfl⟩) rfl rfl ?_ ?_ ?_ ?_ ?_ ?_
            · unfold c51R1
              have hpl : ((dropP c[k] x).filter nzR).length ≤ 1000 := by
                have := List.length_filter_le nzR (dropP c[k] x)
                have : (dropP c[k] x).length = 2 := rfl
                omega
              simp only [↓vp, vq0, vq1, vq2, vq3, vr0, vr1, vr2, vr3, vr4, vr5, vr6, vr7, vr8, vr9, vr10, vr11, vr12, vr13, vr14, vr15, vr16, vr17, vr18, vr19, vr20, vr21, vr22, vr23, vr24, vr25, vr26, vr27, vr28, vr29, vr30, vr31, vr32, vr33, vr34, opS, fpS, extO, okP, pack, nAl, allocA, shId, leaves, fillA, fillR, splice, Nat.reduceLT, Nat.reduceEqDiff, Nat.reduceLeDiff, Nat.reduceAdd, Nat.reduceSub, Nat.reduceMul, Int.reduceBEq, Int.reduceBNe, Int.reduceLT, Int.reduceLE, Int.reduceEq, reduceIte, reduceCtorEq, da, int, boolA, q0, q6, q7, w3]
              rw [hx_nil]
              refine krepR (B := 4) (xs := (dropP c[k] x).filter nzR) hi (by omega) hr hkl hlen hpl (fun K' hg => ?_)
              rw [← hx_nil K']
              simp only [↓vp, vq0, vq1, vq2, vq3, vr0, vr1, vr2, vr3, vr4, vr5, vr6, vr7, vr8, vr9, vr10, vr11, vr12, vr13, vr14, vr15, vr16, vr17, vr18, vr19, vr20, vr21, vr22, vr23, vr24, vr25, vr26, vr27, vr28, vr29, vr30, vr31, vr32, vr33, vr34, opS, fpS, extO, okP, pack, nAl, allocA, shId, leaves, fillA, fillR, splice, Nat.reduceLT, Nat.reduceEqDiff, Nat.reduceLeDiff, Nat.reduceAdd, Nat.reduceSub, Nat.reduceMul, Int.reduceBEq, Int.reduceBNe, Int.reduceLT, Int.reduceLE, Int.reduceEq, reduceIte, reduceCtorEq, da, int, boolA]
              refine ret2 rfl (by decide) (by decide) ?_
              simp only [↓vp, vq0, vq1, vq2, vq3, vr0, vr1, vr2, vr3, vr4, vr5, vr6, vr7, vr8, vr9, vr10, vr11, vr12, vr13, vr14, vr15, vr16, vr17, vr18, vr19, vr20, vr21, vr22, vr23, vr24, vr25, vr26, vr27, vr28, vr29, vr30, vr31, vr32, vr33, vr34, opS, fpS, extO, okP, pack, nAl, allocA, shId, leaves, fillA, fillR, splice, Nat.reduceLT, Nat.reduceEqDiff, Nat.reduceLeDiff, Nat.reduceAdd, Nat.reduceSub, Nat.reduceMul, Int.reduceBEq, Int.reduceBNe, Int.reduceLT, Int.reduceLE, Int.reduceEq, reduceIte, reduceCtorEq]
              exact frz_rowb hg true
            all_goals first | rfl | (simp only [↓vp, vq0, vq1, vq2, vq3, vr0, vr1, vr2, vr3, vr4, vr5, vr6, vr7, vr8, vr9, vr10, vr11, vr12, vr13, vr14, vr15, vr16, vr17, vr18, vr19, vr20, vr21, vr22, vr23, vr24, vr25, vr26, vr27, vr28, vr29, vr30, vr31, vr32, vr33, vr34, opS, fpS, extO, okP, pack, nAl, allocA, shId, leaves, fillA, fillR, splice, Nat.reduceLT, Nat.reduceEqDiff, Nat.reduceLeDiff, Nat.reduceAdd, Nat.reduceSub, Nat.reduceMul, Int.reduceBEq, Int.reduceBNe, Int.reduceLT, Int.reduceLE, Int.reduceEq, reduceIte, reduceCtorEq, da, int, boolA]; done)
      · have ed : dropB l x = false := by unfold dropB; rw [hcl, decide_eq_false hk, Bool.and_false, Bool.false_and]
        have d0 : (overI c x < 0) = True := eq_true (by omega)
        rw [ed, no ed]
        simp only [↓vp, vq0, vq1, vq2, vq3, vr0, vr1, vr2, vr3, vr4, vr5, vr6, vr7, vr8, vr9, vr10, vr11, vr12, vr13, vr14, vr15, vr16, vr17, vr18, vr19, vr20, vr21, vr22, vr23, vr24, vr25, vr26, vr27, vr28, vr29, vr30, vr31, vr32, vr33, vr34, opS, fpS, extO, okP, pack, nAl, allocA, shId, leaves, fillA, fillR, splice, Nat.reduceLT, Nat.reduceEqDiff, Nat.reduceLeDiff, Nat.reduceAdd, Nat.reduceSub, Nat.reduceMul, Int.reduceBEq, Int.reduceBNe, Int.reduceLT, Int.reduceLE, Int.reduceEq, reduceIte, reduceCtorEq, da, int, boolA, dr, runC, km, kc, ko, kn, d0]
        refine ret2 rfl (by decide) (by decide) ?_
        simp only [↓vp, vq0, vq1, vq2, vq3, vr0, vr1, vr2, vr3, vr4, vr5, vr6, vr7, vr8, vr9, vr10, vr11, vr12, vr13, vr14, vr15, vr16, vr17, vr18, vr19, vr20, vr21, vr22, vr23, vr24, vr25, vr26, vr27, vr28, vr29, vr30, vr31, vr32, vr33, vr34, opS, fpS, extO, okP, pack, nAl, allocA, shId, leaves, fillA, fillR, splice, Nat.reduceLT, Nat.reduceEqDiff, Nat.reduceLeDiff, Nat.reduceAdd, Nat.reduceSub, Nat.reduceMul, Int.reduceBEq, Int.reduceBNe, Int.reduceLT, Int.reduceLE, Int.reduceEq, reduceIte, reduceCtorEq]
        exact fz false
theorem s51 (l : List RunM) (hl : l.length ≤ 1000) (x : RunM) (H : Heap) : callL ftM (.fn (.func 51) [] []) [encR l, .agg (runC x)] H = some (.tup [encR (dropM l x), boolA (dropB l x)], H) := s51z l hl x rfl
theorem k51 {l : List RunM} (hl : l.length ≤ 1000) {x : RunM} {K : Heap} {L : List Blk} {Q : AV → Heap → Prop} : KW ftM (.fn (.func 51) [] []) [encR l, .agg (runC x)] (hx K L) Q ↔ Q (.tup [encR (dropM l x), boolA (dropB l x)]) (hx K L) := KW_of (s51 l hl x _)
def takeF (n : Int) : AV := .fn (.func 117) [] [.pim [[int n]] 0 0]
def takeB (n : Int) (x : RunM) : Bool := decide (1 ≤ n) && decide (n ≤ x.2)
theorem s117 (n : Int) (x : RunM) (H : Heap) : callL ft (takeF n) [.agg (runC x)] H = some (boolA (takeB n x), H) := by
  refine call_p (as' := [.agg (runC x), .pim [[int n]] 0 0]) rfl rfl (by simp) ?_
  unfold c117 r117 takeB
  have cp : ∀ H, cellsAt H (.pim [[.sc (.int .i64 n)]] 0 0) 1 = some [.sc (.int .i64 n)] := fun _ => rfl
  by_cases e : 1 ≤ n
  · simp only [↓vp, vq0, vq1, vq2, vq3, vr0, vr1, vr2, vr3, vr4, vr5, vr6, vr7, vr8, vr9, vr10, vr11, vr12, vr13, vr14, vr15, vr16, vr17, vr18, vr19, vr20, vr21, vr22, vr23, vr24, vr25, vr26, vr27, vr28, vr29, vr30, vr31, vr32, vr33, vr34, opS, fpS, extO, okP, pack, nAl, allocA, shId, leaves, fillA, fillR, splice, Nat.reduceLT, Nat.reduceEqDiff, Nat.reduceLeDiff, Nat.reduceAdd, Nat.reduceSub, Nat.reduceMul, Int.reduceBEq, Int.reduceBNe, Int.reduceLT, Int.reduceLE, Int.reduceEq, reduceIte, reduceCtorEq, da, int, boolA, RetP_go, resT, resC, resN, retV1, retV2, retV3, retV0, frzFZ, takeM, Option.some.injEq, dr, runC, cp, e]
  · have ef : (decide (1 ≤ n) && decide (n ≤ x.2)) = false := by rw [decide_eq_false e]; rfl
    rw [ef]
    simp only [↓vp, vq0, vq1, vq2, vq3, vr0, vr1, vr2, vr3, vr4, vr5, vr6, vr7, vr8, vr9, vr10, vr11, vr12, vr13, vr14, vr15, vr16, vr17, vr18, vr19, vr20, vr21, vr22, vr23, vr24, vr25, vr26, vr27, vr28, vr29, vr30, vr31, vr32, vr33, vr34, opS, fpS, extO, okP, pack, nAl, allocA, shId, leaves, fillA, fillR, splice, Nat.reduceLT, Nat.reduceEqDiff, Nat.reduceLeDiff, Nat.reduceAdd, Nat.reduceSub, Nat.reduceMul, Int.reduceBEq, Int.reduceBNe, Int.reduceLT, Int.reduceLE, Int.reduceEq, reduceIte, reduceCtorEq, da, int, boolA, RetP_go, resT, resC, resN, retV1, retV2, retV3, retV0, frzFZ, takeM, Option.some.injEq, dr, runC, cp, e]
def fstI (l : List RunM) (n : Int) : Int := idxM (takeB n) 0 l
/-- What is taken: where, what is left, is there any. -/
def tookM (l : List RunM) (n : Int) : Int × List RunM × Bool :=
  match (if 0 ≤ fstI (cleanM l) n then (cleanM l)[(fstI (cleanM l) n).toNat]? else none) with
  | some y => (y.1, dropM (cleanM l) (y.1, n), dropB (cleanM l) (y.1, n))
  | none => (0, cleanM l, false)
theorem s54 (l : List RunM) (hl : l.length ≤ 1000) (n : Int) (H : Heap) : callL ftM (.fn (.func 54) [] []) [encR l, int n] H = some (.tup [int (tookM l n).1, encR (tookM l n).2.1, boolA (tookM l n).2.2], H) := by
  refine call_p (as' := [encR l, int n]) rfl rfl (by simp) ?_
  unfold c54 r54
  have h1 := cleanM_len l
  have kc := fun K L Q => @kM_of _ _ Q _ _ _ (s105 l (by omega) (hx K L))
  by_cases h0 : cleanM l = []
  · have k0 := fun K L Q => @kcloR0 ftM rfl K L Q
    have ki := fun Q => @kM_of _ _ Q _ _ _ (s116 (T := ft) rfl (takeF n) (takeB n) [] (by simp) (fun y hy => by cases hy) (args := [.emp, .fn (.func 117) [] [.ptr 0 0 0]]) (H := hx Heap.empty [.box false [int n], .dead]) (H1 := hx Heap.empty [.box true [int n], .dead]) rfl)
    have e1 : idxM (takeB n) 0 [] = -1 := rfl
    have et : tookM l n = (0, [], false) := by unfold tookM fstI; rw [h0, e1]; rfl
    rw [h0] at kc
    rw [e1] at ki
    simp only [int] at ki
    rw [et]
    simp only [↓vp, vq0, vq1, vq2, vq3, vr0, vr1, vr2, vr3, vr4, vr5, vr6, vr7, vr8, vr9, vr10, vr11, vr12, vr13, vr14, vr15, vr16, vr17, vr18, vr19, vr20, vr21, vr22, vr23, vr24, vr25, vr26, vr27, vr28, vr29, vr30, vr31, vr32, vr33, vr34, opS, fpS, extO, okP, pack, nAl, allocA, shId, leaves, fillA, fillR, splice, Nat.reduceLT, Nat.reduceEqDiff, Nat.reduceLeDiff, Nat.reduceAdd, Nat.reduceSub, Nat.reduceMul, Int.reduceBEq, Int.reduceBNe, Int.reduceLT, Int.reduceLE, Int.reduceEq, reduceIte, reduceCtorEq, da, int, boolA, RetP_go, resT, resC, resN, retV1, retV2, retV3, retV0, frzFZ, takeM, Option.some.injEq, dr, kc, k0, vemp, ki]
    try rfl
  · have kn := fun K L Q => @kcloR ftM rfl (cleanM l) h0 (by omega) K L Q
    generalize hcl : cleanM l = c at *
    have hlen : c.length ≤ 1000 := by omega
    have e : (c.map runC).take c.length = c.map runC := List.take_of_length_le (by simp)
    have e3 : c.length ≤ (c.map runC).length := by simp
    have hz : frzCells (hx Heap.empty [.box false [int n], .dead, .row false 2 (c.map runC)]) [.sl 2 0 c.length, .fn (.func 117) [] [.ptr 0 0 0]] = some ([encR c, takeF n], hx Heap.empty [.box true [int n], .dead, .row true 2 (c.map runC)]) := by
      show frz.frzL 24 _ _ = _
      simp only [frz.frzL, frz, hxe_get', List.getElem?_cons_succ, List.getElem?_cons_zero, Nat.zero_add, List.drop_zero, e, if_pos e3, hxe_set]
      rfl
    have ki := fun Q => @kM_of _ _ Q _ _ _ (s116 (T := ft) rfl (takeF n) (takeB n) c (by omega) (fun y hy K L Q => KW_of (s117 n y _)) hz)
    have hid := (idxM_neg (takeB n) c 0).2
    simp only [int] at ki
    have gR : (hx Heap.empty [.box true [.sc (.int .i64 n)], .dead, .row true 2 (c.map runC)]).get 2 = some (.row true 2 (c.map runC)) := rfl
    by_cases hk : 0 ≤ idxM (takeB n) 0 c
    · obtain ⟨k, hkk⟩ : ∃ k : Nat, idxM (takeB n) 0 c = k := ⟨(idxM (takeB n) 0 c).toNat, by omega⟩
      have hkl : k < c.length := by rw [hkk] at hid; omega
      rw [hkk] at ki
      have d0 : ((k : Int) < 0) = False := eq_false (by omega)
      have ib := fun L => ia_rr (H := hx (hx Heap.empty [.box true [.sc (.int .i64 n)], .dead, .row true 2 (c.map runC)]) L) (get_old gR L) hkl
      have cb := fun L off m => c_rr (H := hx (hx Heap.empty [.box true [.sc (.int .i64 n)], .dead, .row true 2 (c.map runC)]) L) (off := off) (n := m) (get_old gR L) hkl
      simp only [hx_hx] at ib cb
      have ib1 := ib [.dead]
      have cb1 := cb [.dead]
      simp only [List.cons_append, List.nil_append] at ib1 cb1
      have et : tookM l n = (c[k].1, dropM c (c[k].1, n), dropB c (c[k].1, n)) := by
        unfold tookM fstI
        rw [hcl, hkk, if_pos (by omega)]
        simp [hkl]
      have hz2 : frzCells (hx Heap.empty [.box true [int n], .dead, .row true 2 (c.map runC), .box false [int c[k].1, int n]]) [.sl 2 0 c.length, .agg (runC (c[k].1, n))] = some ([encR c, .agg (runC (c[k].1, n))], hx Heap.empty [.box true [int n], .dead, .row true 2 (c.map runC), .box false [int c[k].1, int n]]) := by
        show frz.frzL 24 _ _ = _
        simp only [frz.frzL, frz, hxe_get', List.getElem?_cons_succ, List.getElem?_cons_zero, Nat.zero_add, List.drop_zero, e, if_pos e3]
        rfl
      have kd := fun Q => @KW_of ftM _ _ _ Q _ _ (s51z c hlen (c[k].1, n) hz2)
      simp only [runC, int] at kd
      rw [et]
      simp only [↓vp, vq0, vq1, vq2, vq3, vr0, vr1, vr2, vr3, vr4, vr5, vr6, vr7, vr8, vr9, vr10, vr11, vr12, vr13, vr14, vr15, vr16, vr17, vr18, vr19, vr20, vr21, vr22, vr23, vr24, vr25, vr26, vr27, vr28, vr29, vr30, vr31, vr32, vr33, vr34, opS, fpS, extO, okP, pack, nAl, allocA, shId, leaves, fillA, fillR, splice, Nat.reduceLT, Nat.reduceEqDiff, Nat.reduceLeDiff, Nat.reduceAdd, Nat.reduceSub, Nat.reduceMul, Int.reduceBEq, Int.reduceBNe, Int.reduceLT, Int.reduceLE, Int.reduceEq, reduceIte, reduceCtorEq, da, int, boolA, RetP_go, resT, resC, resN, retV1, retV2, retV3, retV0, frzFZ, takeM, Option.some.injEq, dr, kc, kn, ki, d0, ib1, cb1, kd]
    · have hk1 : idxM (takeB n) 0 c = -1 := by omega
      rw [hk1] at ki
      have et : tookM l n = (0, c, false) := by unfold tookM fstI; rw [hcl, hk1]; rfl
      rw [et]
      simp only [↓vp, vq0, vq1, vq2, vq3, vr0, vr1, vr2, vr3, vr4, vr5, vr6, vr7, vr8, vr9, vr10, vr11, vr12, vr13, vr14, vr15, vr16, vr17, vr18, vr19, vr20, vr21, vr22, vr23, vr24, vr25, vr26, vr27, vr28, vr29, vr30, vr31, vr32, vr33, vr34, opS, fpS, extO, okP, pack, nAl, allocA, shId, leaves, fillA, fillR, splice, Nat.reduceLT, Nat.reduceEqDiff, Nat.reduceLeDiff, Nat.reduceAdd, Nat.reduceSub, Nat.reduceMul, Int.reduceBEq, Int.reduceBNe, Int.reduceLT, Int.reduceLE, Int.reduceEq, reduceIte, reduceCtorEq, da, int, boolA, RetP_go, resT, resC, resN, retV1, retV2, retV3, retV0, frzFZ, takeM, Option.some.injEq, dr, kc, kn, ki, e]
      rfl
theorem k54 {l : List RunM} (hl : l.length ≤ 1000) {n : Int} {K : Heap} {L : List Blk} {Q : AV → Heap → Prop} : KW ftM (.fn (.func 54) [] []) [encR l, int n] (hx K L) Q ↔ Q (.tup [int (tookM l n).1, encR (tookM l n).2.1, boolA (tookM l n).2.2]) (hx K L) := KW_of (s54 l hl n _)
end Go.VI

set_option linter.unusedVariables false
set_option linter.unusedSimpArgs false
set_option maxRecDepth 100000
namespace Go.VI
attribute [local congr] AW_congr OW_congr DW_congr NW_congr VW_congr GW_congr PW_congr KW_congr ite_congr' GV_congr CV_congr
def pgs (x : RunM) (n : Nat) : List Int := (List.range n).map fun (k : Nat) => x.1 + (k : Int)
def pgsL (l : List RunM) : List Int := l.flatMap fun x => pgs x x.2.toNat
def pagesM (l : List RunM) : List Int := pgsL (cleanM l)
theorem pgs_len (x : RunM) (n : Nat) : (pgs x n).length = n := by simp [pgs]
theorem pgs_succ (x : RunM) (n : Nat) : pgs x (n + 1) = pgs x n ++ [x.1 + (n : Int)] := by simp [pgs, List.range_succ]
theorem pgsL_take {l : List RunM} {i : Nat} (h : i < l.length) : pgsL (l.take (i + 1)) = pgsL (l.take i) ++ pgs l[i] l[i].2.toNat := by
  unfold pgsL
  rw [List.take_succ_eq_append_getElem h, List.flatMap_append]
  simp
theorem pgsL_len : ∀ {l : List RunM}, (∀ x ∈ l, mayM x = true) → (pgsL l).length ≤ 32768 * l.length
  | [], _ => by simp [pgsL]
  | x :: l, h => by
    have h1 := mayM_iff.1 (h x (by simp))
    have h2 := pgsL_len (l := l) fun y hy => h y (by simp [hy])
    unfold pgsL at h2 ⊢
    rw [List.flatMap_cons, List.length_append, pgs_len, List.length_cons]
    omega
theorem l38a (x : RunM) (hx0 : mayM x = true) (pre : List Int) (hp : pre.length ≤ 32768000000) (b : Nat) (A B C : AV) {Q : AExit → Env → Heap → Prop}
   (hex : ∀ f' K S, Rep K 1 S ((pre ++ pgs x x.2.toNat).map numC) → f' 3 = S → f' 8 = A → f' 9 = B → f' 10 = C → Q (.exit 2) (mkE 29 f') (hx K [])) :
   ∀ (d i : Nat) (S : AV) (K : Heap) (f : Nat → AV), i + d = x.2.toNat → Rep K 1 S ((pre ++ pgs x i).map numC) → K.get b = some (.box false (runC x)) → f 3 = S → f 5 = .ptr b 0 0 → f 8 = A → f 9 = B → f 10 = C → f 15 = int x.2 → f 16 = int i →
    AW ft (.loop c38L0) (mkE 29 f) (hx K []) Q := by
  intro d
  have bx := mayM_iff.1 hx0
  induction d with
  | zero =>
    intro i S K f hd hr hb h3 h5 h8 h9 h10 h15 h16
    have g : ((i : Int) < x.2) = False := by simp; omega
    rw [AW_loop]
    unfold c38L0
    have e : i = x.2.toNat := by omega
    rw [e] at hr
    simp only [↓vp, vq0, vq1, vq2, vq3, vr0, vr1, vr2, vr3, vr4, vr5, vr6, vr7, vr8, vr9, vr10, vr11, vr12, vr13, vr14, vr15, vr16, vr17, vr18, vr19, vr20, vr21, vr22, vr23, vr24, vr25, vr26, vr27, vr28, vr29, vr30, vr31, vr32, vr33, vr34, opS, fpS, extO, okP, pack, nAl, allocA, shId, leaves, fillA, fillR, splice, Nat.reduceLT, Nat.reduceEqDiff, Nat.reduceLeDiff, Nat.reduceAdd, Nat.reduceSub, Nat.reduceMul, Int.reduceBEq, Int.reduceBNe, Int.reduceLT, Int.reduceLE, Int.reduceEq, reduceIte, reduceCtorEq, da, int, boolA, h15, h16, g]
    refine hex _ K S hr ?_ ?_ ?_ ?_ <;> simp only [↓vp, vq0, vq1, vq2, vq3, vr0, vr1, vr2, vr3, vr4, vr5, vr6, vr7, vr8, vr9, vr10, vr11, vr12, vr13, vr14, vr15, vr16, vr17, vr18, vr19, vr20, vr21, vr22, vr23, vr24, vr25, vr26, vr27, vr28, vr29, vr30, vr31, vr32, vr33, vr34, opS, fpS, extO, okP, pack, nAl, allocA, shId, leaves, fillA, fillR, splice, Nat.reduceLT, Nat.reduceEqDiff, Nat.reduceLeDiff, Nat.reduceAdd, Nat.reduceSub, Nat.reduceMul, Int.reduceBEq, Int.reduceBNe, Int.reduceLT, Int.reduceLE, Int.reduceEq, reduceIte, reduceCtorEq, da, int, boolA, h3, h8, h9, h10]
  | succ d ih =>
    intro i S K f hd hr hb h3 h5 h8 h9 h10 h15 h16
    have g1 : ((i : Int) < x.2) = True := by simp; omega
    have w1 := wrap_succ (show i < 9223372036854775807 by omega)
    have w2 : IntKind.i64.wrap (x.1 + (i : Int)) = x.1 + i := wrap_i64 (by omega)
    have gb := fun L => get_old (L := L) hb
    have hlen : ((pre ++ pgs x i).map numC).length = pre.length + i := by rw [List.length_map, List.length_append, pgs_len]
    have lb := Heap.get_lt hb
    have ap := fun nid L => appA_rep (nid := nid) (bytes := 8) hr (xs := [numC (x.1 + i)]) (by simp) rfl (by rw [hlen]; simp; omega) L
    rw [hlen] at ap
    simp only [numC, int, List.length_singleton] at ap
    have ht : (pre ++ pgs x (i + 1)).map numC = (pre ++ pgs x i).map numC ++ [numC (x.1 + i)] := by
      rw [pgs_succ, ← List.append_assoc, List.map_append (l₁ := pre ++ pgs x i)]
      rfl
    simp only [runC, int] at gb
    rw [AW_loop]
    unfold c38L0
    simp only [↓vp, vq0, vq1, vq2, vq3, vr0, vr1, vr2, vr3, vr4, vr5, vr6, vr7, vr8, vr9, vr10, vr11, vr12, vr13, vr14, vr15, vr16, vr17, vr18, vr19, vr20, vr21, vr22, vr23, vr24, vr25, vr26, vr27, vr28, vr29, vr30, vr31, vr32, vr33, vr34, opS, fpS, extO, okP, pack, nAl, allocA, shId, leaves, fillA, fillR, splice, Nat.reduceLT, Nat.reduceEqDiff, Nat.reduceLeDiff, Nat.reduceAdd, Nat.reduceSub, Nat.reduceMul, Int.reduceBEq, Int.reduceBNe, Int.reduceLT, Int.reduceLE, Int.reduceEq, reduceIte, reduceCtorEq, da, int, boolA, dr, h3, h5, h15, h16, g1, gb, w1, w2, ap, kill_next]
    rw [← hx_nil (hx _ _)]
    refine ih (i + 1) (.sl (K.next + 1) 0 (pre.length + i + 1)) _ _ (by omega) (.inr ⟨K.next + 1, ?_, ?_⟩) (kill_old hr hb (by simp) _) ?_ ?_ ?_ ?_ ?_ ?_ ?_
    · rw [ht, List.length_append, hlen]
      rfl
    · rw [ht]
      simp only [↓vp, vq0, vq1, vq2, vq3, vr0, vr1, vr2, vr3, vr4, vr5, vr6, vr7, vr8, vr9, vr10, vr11, vr12, vr13, vr14, vr15, vr16, vr17, vr18, vr19, vr20, vr21, vr22, vr23, vr24, vr25, vr26, vr27, vr28, vr29, vr30, vr31, vr32, vr33, vr34, opS, fpS, extO, okP, pack, nAl, allocA, shId, leaves, fillA, fillR, splice, Nat.reduceLT, Nat.reduceEqDiff, Nat.reduceLeDiff, Nat.reduceAdd, Nat.reduceSub, Nat.reduceMul, Int.reduceBEq, Int.reduceBNe, Int.reduceLT, Int.reduceLE, Int.reduceEq, reduceIte, reduceCtorEq, kill_next]
      rfl
    all_goals simp only [↓vp, vq0, vq1, vq2, vq3, vr0, vr1, vr2, vr3, vr4, vr5, vr6, vr7, vr8, vr9, vr10, vr11, vr12, vr13, vr14, vr15, vr16, vr17, vr18, vr19, vr20, vr21, vr22, vr23, vr24, vr25, vr26, vr27, vr28, vr29, vr30, vr31, vr32, vr33, vr34, opS, fpS, extO, okP, pack, nAl, allocA, shId, leaves, fillA, fillR, splice, Nat.reduceLT, Nat.reduceEqDiff, Nat.reduceLeDiff, Nat.reduceAdd, Nat.reduceSub, Nat.reduceMul, Int.reduceBEq, Int.reduceBNe, Int.reduceLT, Int.reduceLE, Int.reduceEq, reduceIte, reduceCtorEq, da, int, boolA, h5, h8, h9, h10, h15]
theorem l38 (c : List RunM) (hl : c.length ≤ 1000) (hm : ∀ x ∈ c, mayM x = true) {Q : AExit → Env → Heap → Prop}
   (hex : ∀ f' K S, Rep K 1 S ((pgsL c).map numC) → f' 3 = S → Q (.exit 0) (mkE 29 f') (hx K [])) :
   ∀ (d i : Nat) (S : AV) (K : Heap) (f : Nat → AV), i + d = c.length → Rep K 1 S ((pgsL (c.take i)).map numC) → f 3 = S → f 8 = encR c → f 9 = int c.length → f 10 = int i →
    AW ft (.loop c38L2) (mkE 29 f) (hx K []) Q := by
  intro d
  induction d with
  | zero =>
    intro i S K f hd hr h3 h8 h9 h10
    have g : ((i : Int) < c.length) = False := by simp; omega
    rw [AW_loop]
    unfold c38L2
    rw [List.take_of_length_le (by omega)] at hr
    simp only [↓vp, vq0, vq1, vq2, vq3, vr0, vr1, vr2, vr3, vr4, vr5, vr6, vr7, vr8, vr9, vr10, vr11, vr12, vr13, vr14, vr15, vr16, vr17, vr18, vr19, vr20, vr21, vr22, vr23, vr24, vr25, vr26, vr27, vr28, vr29, vr30, vr31, vr32, vr33, vr34, opS, fpS, extO, okP, pack, nAl, allocA, shId, leaves, fillA, fillR, splice, Nat.reduceLT, Nat.reduceEqDiff, Nat.reduceLeDiff, Nat.reduceAdd, Nat.reduceSub, Nat.reduceMul, Int.reduceBEq, Int.reduceBNe, Int.reduceLT, Int.reduceLE, Int.reduceEq, reduceIte, reduceCtorEq, da, int, boolA, h9, h10, g]
    refine hex _ K S hr ?_
    simp only [↓vp, vq0, vq1, vq2, vq3, vr0, vr1, vr2, vr3, vr4, vr5, vr6, vr7, vr8, vr9, vr10, vr11, vr12, vr13, vr14, vr15, vr16, vr17, vr18, vr19, vr20, vr21, vr22, vr23, vr24, vr25, vr26, vr27, vr28, vr29, vr30, vr31, vr32, vr33, vr34, opS, fpS, extO, okP, pack, nAl, allocA, shId, leaves, fillA, fillR, splice, Nat.reduceLT, Nat.reduceEqDiff, Nat.reduceLeDiff, Nat.reduceAdd, Nat.reduceSub, Nat.reduceMul, Int.reduceBEq, Int.reduceBNe, Int.reduceLT, Int.reduceLE, Int.reduceEq, reduceIte, reduceCtorEq, da, int, boolA, h3]
  | succ d ih =>
    intro i S K f hd hr h3 h8 h9 h10
    have g1 : ((i : Int) < c.length) = True := by simp; omega
    have gi : i < c.length := by omega
    have w1 := wrap_succ (show i < 9223372036854775807 by omega)
    have ht := pgsL_take gi
    have hpl := pgsL_len (l := c.take i) fun x hx => hm x (List.mem_of_mem_take hx)
    have hpl2 : (c.take i).length ≤ 1000 := by simp; omega
    rw [AW_loop]
    unfold c38L2
    simp only [↓vp, vq0, vq1, vq2, vq3, vr0, vr1, vr2, vr3, vr4, vr5, vr6, vr7, vr8, vr9, vr10, vr11, vr12, vr13, vr14, vr15, vr16, vr17, vr18, vr19, vr20, vr21, vr22, vr23, vr24, vr25, vr26, vr27, vr28, vr29, vr30, vr31, vr32, vr33, vr34, opS, fpS, extO, okP, pack, nAl, allocA, shId, leaves, fillA, fillR, splice, Nat.reduceLT, Nat.reduceEqDiff, Nat.reduceLeDiff, Nat.reduceAdd, Nat.reduceSub, Nat.reduceMul, Int.reduceBEq, Int.reduceBNe, Int.reduceLT, Int.reduceLE, Int.reduceEq, reduceIte, reduceCtorEq, da, int, boolA, dr, h3, h8, h9, h10, g1, atR gi, cR gi, runC]
    rw [← hx_nil (hx _ _)]
    refine l38a c[i] (hm _ (List.getElem_mem gi)) (pgsL (c.take i)) (by omega) K.next (encR c) (int c.length) (int i) (fun f' K' S' hr' q3 q8 q9 q10 => ?_) c[i].2.toNat 0 S _ _ (by simp) ?_ ?_ ?_ ?_ ?_ ?_ ?_ ?_ ?_
    · rw [← ht] at hr'
      unfold c38R1
      simp only [↓vp, vq0, vq1, vq2, vq3, vr0, vr1, vr2, vr3, vr4, vr5, vr6, vr7, vr8, vr9, vr10, vr11, vr12, vr13, vr14, vr15, vr16, vr17, vr18, vr19, vr20, vr21, vr22, vr23, vr24, vr25, vr26, vr27, vr28, vr29, vr30, vr31, vr32, vr33, vr34, opS, fpS, extO, okP, pack, nAl, allocA, shId, leaves, fillA, fillR, splice, Nat.reduceLT, Nat.reduceEqDiff, Nat.reduceLeDiff, Nat.reduceAdd, Nat.reduceSub, Nat.reduceMul, Int.reduceBEq, Int.reduceBNe, Int.reduceLT, Int.reduceLE, Int.reduceEq, reduceIte, reduceCtorEq, da, int, boolA, q10, w1]
      refine ih (i + 1) S' K' _ (by omega) hr' ?_ ?_ ?_ ?_ <;> simp only [↓vp, vq0, vq1, vq2, vq3, vr0, vr1, vr2, vr3, vr4, vr5, vr6, vr7, vr8, vr9, vr10, vr11, vr12, vr13, vr14, vr15, vr16, vr17, vr18, vr19, vr20, vr21, vr22, vr23, vr24, vr25, vr26, vr27, vr28, vr29, vr30, vr31, vr32, vr33, vr34, opS, fpS, extO, okP, pack, nAl, allocA, shId, leaves, fillA, fillR, splice, Nat.reduceLT, Nat.reduceEqDiff, Nat.reduceLeDiff, Nat.reduceAdd, Nat.reduceSub, Nat.reduceMul, Int.reduceBEq, Int.reduceBNe, Int.reduceLT, Int.reduceLE, Int.reduceEq, reduceIte, reduceCtorEq, da, int, boolA, q3, q8, q9]
    · have e : pgsL (c.take i) ++ pgs c[i] 0 = pgsL (c.take i) := by simp [pgs]
      rw [e]
      exact hr.mono fun id h => get_old h _
    · rw [hx_get0]
      rfl
    all_goals simp only [↓vp, vq0, vq1, vq2, vq3, vr0, vr1, vr2, vr3, vr4, vr5, vr6, vr7, vr8, vr9, vr10, vr11, vr12, vr13, vr14, vr15, vr16, vr17, vr18, vr19, vr20, vr21, vr22, vr23, vr24, vr25, vr26, vr27, vr28, vr29, vr30, vr31, vr32, vr33, vr34, opS, fpS, extO, okP, pack, nAl, allocA, shId, leaves, fillA, fillR, splice, Nat.reduceLT, Nat.reduceEqDiff, Nat.reduceLeDiff, Nat.reduceAdd, Nat.reduceSub, Nat.reduceMul, Int.reduceBEq, Int.reduceBNe, Int.reduceLT, Int.reduceLE, Int.reduceEq, reduceIte, reduceCtorEq, da, int, boolA, h3, h8, h9, h10, Int.natCast_zero]
theorem s38 (l : List RunM) (hl : l.length ≤ 1000) (H : Heap) : callL ft (.fn (.func 38) [] []) [encR l] H = some (encN (pagesM l), H) := by
  refine call_p (as' := [encR l]) rfl rfl (by simp) ?_
  unfold c38 r38
  have kc := fun K L Q => @k105 l (by omega) K L Q
  have h1 := cleanM_len l
  simp only [↓vp, vq0, vq1, vq2, vq3, vr0, vr1, vr2, vr3, vr4, vr5, vr6, vr7, vr8, vr9, vr10, vr11, vr12, vr13, vr14, vr15, vr16, vr17, vr18, vr19, vr20, vr21, vr22, vr23, vr24, vr25, vr26, vr27, vr28, vr29, vr30, vr31, vr32, vr33, vr34, opS, fpS, extO, okP, pack, nAl, allocA, shId, leaves, fillA, fillR, splice, Nat.reduceLT, Nat.reduceEqDiff, Nat.reduceLeDiff, Nat.reduceAdd, Nat.reduceSub, Nat.reduceMul, Int.reduceBEq, Int.reduceBNe, Int.reduceLT, Int.reduceLE, Int.reduceEq, reduceIte, reduceCtorEq, da, int, boolA, dr, kc]
  rw [← hx_nil (Heap.empty)]
  refine l38 (cleanM l) (by omega) (clean_may l) (fun f' K S hr h3 => ?_) (cleanM l).length 0 (.sc (.slice none 0 0)) _ _ (by simp) (.inl ⟨rfl, rfl⟩) ?_ ?_ ?_ ?_
  · unfold c38R3
    obtain ⟨K', hz⟩ := frz_rep (L := []) (by rw [hx_nil]; exact hr) 23
    simp only [↓vp, vq0, vq1, vq2, vq3, vr0, vr1, vr2, vr3, vr4, vr5, vr6, vr7, vr8, vr9, vr10, vr11, vr12, vr13, vr14, vr15, vr16, vr17, vr18, vr19, vr20, vr21, vr22, vr23, vr24, vr25, vr26, vr27, vr28, vr29, vr30, vr31, vr32, vr33, vr34, opS, fpS, extO, okP, pack, nAl, allocA, shId, leaves, fillA, fillR, splice, Nat.reduceLT, Nat.reduceEqDiff, Nat.reduceLeDiff, Nat.reduceAdd, Nat.reduceSub, Nat.reduceMul, Int.reduceBEq, Int.reduceBNe, Int.reduceLT, Int.reduceLE, Int.reduceEq, reduceIte, reduceCtorEq, h3]
    refine ret1 rfl (by decide) ?_
    simp only [↓vp, vq0, vq1, vq2, vq3, vr0, vr1, vr2, vr3, vr4, vr5, vr6, vr7, vr8, vr9, vr10, vr11, vr12, vr13, vr14, vr15, vr16, vr17, vr18, vr19, vr20, vr21, vr22, vr23, vr24, vr25, vr26, vr27, vr28, vr29, vr30, vr31, vr32, vr33, vr34, opS, fpS, extO, okP, pack, nAl, allocA, shId, leaves, fillA, fillR, splice, Nat.reduceLT, Nat.reduceEqDiff, Nat.reduceLeDiff, Nat.reduceAdd, Nat.reduceSub, Nat.reduceMul, Int.reduceBEq, Int.reduceBNe, Int.reduceLT, Int.reduceLE, Int.reduceEq, reduceIte, reduceCtorEq]
    exact ⟨K', hz⟩
  all_goals first | rfl | (simp only [↓vp, vq0, vq1, vq2, vq3, vr0, vr1, vr2, vr3, vr4, vr5, vr6, vr7, vr8, vr9, vr10, vr11, vr12, vr13, vr14, vr15, vr16, vr17, vr18, vr19, vr20, vr21, vr22, vr23, vr24, vr25, vr26, vr27, vr28, vr29, vr30, vr31, vr32, vr33, vr34, opS, fpS, extO, okP, pack, nAl, allocA, shId, leaves, fillA, fillR, splice, Nat.reduceLT, Nat.reduceEqDiff, Nat.reduceLeDiff, Nat.reduceAdd, Nat.reduceSub, Nat.reduceMul, Int.reduceBEq, Int.reduceBNe, Int.reduceLT, Int.reduceLE, Int.reduceEq, reduceIte, reduceCtorEq, da, int, boolA]; done)
end Go.VI

set_option linter.unusedVariables false
set_option linter.unusedSimpArgs false
set_option maxRecDepth 100000
namespace Go.VI
attribute [local congr] AW_congr OW_congr DW_congr NW_congr VW_congr GW_congr PW_congr KW_congr ite_congr' GV_congr CV_congr
/-- A row of which all from a up to b are true. -/
def fillT (s : List Bool) (a b : Nat) : List Bool := (List.range s.length).map fun p => s.getD p false || (decide (a ≤ p) && decide (p < b))
theorem fillT_len (s : List Bool) (a b : Nat) : (fillT s a b).length = s.length := by simp [fillT]
theorem fillT_at (s : List Bool) (a b p : Nat) (h : p < s.length) : (fillT s a b)[p]? = some (s[p] || (decide (a ≤ p) && decide (p < b))) := by
  unfold fillT
  rw [List.getElem?_map, List.getElem?_range h, Option.map_some]
  simp [h]
theorem fillT_eq {s t : List Bool} {a b : Nat} (hl : t.length = s.length) (h : ∀ p (hp : p < s.length), t[p]? = some (s[p] || (decide (a ≤ p) && decide (p < b)))) : fillT s a b = t := by
  refine List.ext_getElem? fun p => ?_
  rcases Nat.lt_or_ge p s.length with h1 | h1
  · rw [fillT_at _ _ _ _ h1, h p h1]
  · rw [List.getElem?_eq_none (by rw [fillT_len]; exact h1), List.getElem?_eq_none (by omega)]
theorem fillT_none {s : List Bool} {a b : Nat} (h : b ≤ a ∨ s.length ≤ a) : fillT s a b = s := by
  refine fillT_eq rfl fun p hp => ?_
  rw [List.getElem?_eq_getElem hp]
  have : (decide (a ≤ p) && decide (p < b)) = false := by
    rw [Bool.and_eq_false_iff, decide_eq_false_iff_not, decide_eq_false_iff_not]
    omega
  rw [this, Bool.or_false]
theorem fillT_step {s : List Bool} {a b : Nat} (h : a < b) (h2 : a < s.length) : fillT s a b = fillT (s.set a true) (a + 1) b := by
  refine fillT_eq (by rw [fillT_len, List.length_set]) fun p hp => ?_
  rw [fillT_at _ _ _ _ (by simpa using hp), List.getElem_set]
  by_cases e : a = p
  · subst e
    simp [h]
  · rw [if_neg e]
    have : decide (a + 1 ≤ p) = decide (a ≤ p) := by
      rw [decide_eq_decide]
      omega
    rw [this]
theorem bits_set (s : List Bool) (p : Nat) : (s.map bitC).set p [.sc (.bool true)] = (s.set p true).map bitC := by
  rw [List.map_set]
  rfl
theorem l37a (l : List RunM) (i : Nat) (hi : i < l.length) (hm : mayM l[i] = true) (n : Nat) (hn : n ≤ 100000) {H : Heap} {Q : AExit → Env → Heap → Prop}
   (t : List Bool) (hex : ∀ f', f' 0 = encR l → f' 1 = int n → f' 5 = .sl H.next 0 n → f' 6 = int i → Q (.exit 2) (mkE 49 f') (hx H [.row false 1 (t.map bitC)])) :
   ∀ (d p : Nat) (s : List Bool) (f : Nat → AV), p + d = (endM l[i]).toNat → s.length = n → fillT s p (endM l[i]).toNat = t → f 0 = encR l → f 1 = int n → f 5 = .sl H.next 0 n → f 6 = int i → f 7 = int p →
    AW ft (.loop c37L0) (mkE 49 f) (hx H [.row false 1 (s.map bitC)]) Q := by
  intro d
  have bx := mayM_iff.1 hm
  have w3 : IntKind.i64.wrap (l[i].1 + l[i].2) = endM l[i] := wrap_i64 (by omega)
  have hee : endM l[i] = l[i].1 + l[i].2 := rfl
  induction d with
  | zero =>
    intro p s f hd hs ht h0 h1 h5 h6 h7
    have g1 : ((p : Int) < endM l[i]) = False := by simp; omega
    rw [fillT_none (by omega)] at ht
    subst ht
    rw [AW_loop]
    unfold c37L0
    simp only [↓vp, vq0, vq1, vq2, vq3, vr0, vr1, vr2, vr3, vr4, vr5, vr6, vr7, vr8, vr9, vr10, vr11, vr12, vr13, vr14, vr15, vr16, vr17, vr18, vr19, vr20, vr21, vr22, vr23, vr24, vr25, vr26, vr27, vr28, vr29, vr30, vr31, vr32, vr33, vr34, opS, fpS, extO, okP, pack, nAl, allocA, shId, leaves, fillA, fillR, splice, Nat.reduceLT, Nat.reduceEqDiff, Nat.reduceLeDiff, Nat.reduceAdd, Nat.reduceSub, Nat.reduceMul, Int.reduceBEq, Int.reduceBNe, Int.reduceLT, Int.reduceLE, Int.reduceEq, reduceIte, reduceCtorEq, da, int, boolA, dr, h0, h1, h5, h6, h7, atR hi, cR hi, runC, w3, g1]
    refine hex _ ?_ ?_ ?_ ?_ <;> simp only [↓vp, vq0, vq1, vq2, vq3, vr0, vr1, vr2, vr3, vr4, vr5, vr6, vr7, vr8, vr9, vr10, vr11, vr12, vr13, vr14, vr15, vr16, vr17, vr18, vr19, vr20, vr21, vr22, vr23, vr24, vr25, vr26, vr27, vr28, vr29, vr30, vr31, vr32, vr33, vr34, opS, fpS, extO, okP, pack, nAl, allocA, shId, leaves, fillA, fillR, splice, Nat.reduceLT, Nat.reduceEqDiff, Nat.reduceLeDiff, Nat.reduceAdd, Nat.reduceSub, Nat.reduceMul, Int.reduceBEq, Int.reduceBNe, Int.reduceLT, Int.reduceLE, Int.reduceEq, reduceIte, reduceCtorEq, da, int, boolA, h0, h1, h5, h6]
  | succ d ih =>
    intro p s f hd hs ht h0 h1 h5 h6 h7
    have g1 : ((p : Int) < endM l[i]) = True := by simp; omega
    have w1 := wrap_succ (show p < 9223372036854775807 by omega)
    by_cases c1 : p < n
    · have g2 : ((p : Int) < n) = True := by simp; omega
      rw [fillT_step (by omega) (by omega)] at ht
      have hg : (hx H [.row false 1 (s.map bitC)]).get H.next = some (.row false 1 (s.map bitC)) := by rw [hx_get0]; rfl
      have ia := ia_row hg c1
      have rm : (s.map bitC)[p]? = some [.sc (.bool s[p])] := by rw [List.getElem?_map, List.getElem?_eq_getElem (by omega)]; rfl
      rw [AW_loop]
      unfold c37L0
      simp only [↓vp, vq0, vq1, vq2, vq3, vr0, vr1, vr2, vr3, vr4, vr5, vr6, vr7, vr8, vr9, vr10, vr11, vr12, vr13, vr14, vr15, vr16, vr17, vr18, vr19, vr20, vr21, vr22, vr23, vr24, vr25, vr26, vr27, vr28, vr29, vr30, vr31, vr32, vr33, vr34, opS, fpS, extO, okP, pack, nAl, allocA, shId, leaves, fillA, fillR, splice, Nat.reduceLT, Nat.reduceEqDiff, Nat.reduceLeDiff, Nat.reduceAdd, Nat.reduceSub, Nat.reduceMul, Int.reduceBEq, Int.reduceBNe, Int.reduceLT, Int.reduceLE, Int.reduceEq, reduceIte, reduceCtorEq, da, int, boolA, dr, h0, h1, h5, h6, h7, atR hi, cR hi, runC, w3, g1, g2, ia, hg, rm, w1, bits_set]
      refine ih (p + 1) (s.set p true) _ (by omega) (by simpa using hs) ht ?_ ?_ ?_ ?_ ?_ <;> simp only [↓vp, vq0, vq1, vq2, vq3, vr0, vr1, vr2, vr3, vr4, vr5, vr6, vr7, vr8, vr9, vr10, vr11, vr12, vr13, vr14, vr15, vr16, vr17, vr18, vr19, vr20, vr21, vr22, vr23, vr24, vr25, vr26, vr27, vr28, vr29, vr30, vr31, vr32, vr33, vr34, opS, fpS, extO, okP, pack, nAl, allocA, shId, leaves, fillA, fillR, splice, Nat.reduceLT, Nat.reduceEqDiff, Nat.reduceLeDiff, Nat.reduceAdd, Nat.reduceSub, Nat.reduceMul, Int.reduceBEq, Int.reduceBNe, Int.reduceLT, Int.reduceLE, Int.reduceEq, reduceIte, reduceCtorEq, da, int, boolA, h0, h1, h5, h6]
    · have g2 : ((p : Int) < n) = False := by simp; omega
      rw [fillT_none (by omega)] at ht
      subst ht
      rw [AW_loop]
      unfold c37L0
      simp only [↓vp, vq0, vq1, vq2, vq3, vr0, vr1, vr2, vr3, vr4, vr5, vr6, vr7, vr8, vr9, vr10, vr11, vr12, vr13, vr14, vr15, vr16, vr17, vr18, vr19, vr20, vr21, vr22, vr23, vr24, vr25, vr26, vr27, vr28, vr29, vr30, vr31, vr32, vr33, vr34, opS, fpS, extO, okP, pack, nAl, allocA, shId, leaves, fillA, fillR, splice, Nat.reduceLT, Nat.reduceEqDiff, Nat.reduceLeDiff, Nat.reduceAdd, Nat.reduceSub, Nat.reduceMul, Int.reduceBEq, Int.reduceBNe, Int.reduceLT, Int.reduceLE, Int.reduceEq, reduceIte, reduceCtorEq, da, int, boolA, dr, h0, h1, h5, h6, h7, atR hi, cR hi, runC, w3, g1, g2]
      refine hex _ ?_ ?_ ?_ ?_ <;> simp only [↓vp, vq0, vq1, vq2, vq3, vr0, vr1, vr2, vr3, vr4, vr5, vr6, vr7, vr8, vr9, vr10, vr11, vr12, vr13, vr14, vr15, vr16, vr17, vr18, vr19, vr20, vr21, vr22, vr23, vr24, vr25, vr26, vr27, vr28, vr29, vr30, vr31, vr32, vr33, vr34, opS, fpS, extO, okP, pack, nAl, allocA, shId, leaves, fillA, fillR, splice, Nat.reduceLT, Nat.reduceEqDiff, Nat.reduceLeDiff, Nat.reduceAdd, Nat.reduceSub, Nat.reduceMul, Int.reduceBEq, Int.reduceBNe, Int.reduceLT, Int.reduceLE, Int.reduceEq, reduceIte, reduceCtorEq, da, int, boolA, h0, h1, h5, h6]
def fillL (s : List Bool) (l : List RunM) : List Bool := l.foldl (fun s x => fillT s x.1.toNat (endM x).toNat) s
def setM (l : List RunM) (n : Nat) : List Bool := fillL (List.replicate n false) (cleanM l)
theorem fillL_take {s : List Bool} {l : List RunM} {i : Nat} (h : i < l.length) : fillL s (l.take (i + 1)) = fillT (fillL s (l.take i)) l[i].1.toNat (endM l[i]).toNat := by
  unfold fillL
  rw [List.take_succ_eq_append_getElem h, List.foldl_append]
  rfl
theorem fillL_len (l : List RunM) : ∀ (s : List Bool), (fillL s l).length = s.length := by
  induction l with
  | nil => intro s; rfl
  | cons x l ih =>
    intro s
    show (fillL (fillT s x.1.toNat (endM x).toNat) l).length = _
    rw [ih, fillT_len]
theorem l37 (l : List RunM) (hl : l.length ≤ 1000000) (hm : ∀ x ∈ l, mayM x = true) (n : Nat) (hn : n ≤ 100000) {H : Heap} {Q : AExit → Env → Heap → Prop}
   (s0 : List Bool) (hs0 : s0.length = n) (hex : ∀ f', f' 5 = .sl H.next 0 n → Q (.exit 0) (mkE 49 f') (hx H [.row false 1 ((fillL s0 l).map bitC)])) :
   ∀ (d i : Nat) (f : Nat → AV), i + d = l.length → f 0 = encR l → f 1 = int n → f 5 = .sl H.next 0 n → f 6 = int i →
    AW ft (.loop c37L2) (mkE 49 f) (hx H [.row false 1 ((fillL s0 (l.take i)).map bitC)]) Q := by
  intro d
  induction d with
  | zero =>
    intro i f hd h0 h1 h5 h6
    have g1 : ((i : Int) < l.length) = False := by simp; omega
    rw [List.take_of_length_le (by omega)]
    rw [AW_loop]
    unfold c37L2
    simp only [↓vp, vq0, vq1, vq2, vq3, vr0, vr1, vr2, vr3, vr4, vr5, vr6, vr7, vr8, vr9, vr10, vr11, vr12, vr13, vr14, vr15, vr16, vr17, vr18, vr19, vr20, vr21, vr22, vr23, vr24, vr25, vr26, vr27, vr28, vr29, vr30, vr31, vr32, vr33, vr34, opS, fpS, extO, okP, pack, nAl, allocA, shId, leaves, fillA, fillR, splice, Nat.reduceLT, Nat.reduceEqDiff, Nat.reduceLeDiff, Nat.reduceAdd, Nat.reduceSub, Nat.reduceMul, Int.reduceBEq, Int.reduceBNe, Int.reduceLT, Int.reduceLE, Int.reduceEq, reduceIte, reduceCtorEq, da, int, boolA, dr, h0, h6, g1]
    refine hex _ ?_
    simp only [↓vp, vq0, vq1, vq2, vq3, vr0, vr1, vr2, vr3, vr4, vr5, vr6, vr7, vr8, vr9, vr10, vr11, vr12, vr13, vr14, vr15, vr16, vr17, vr18, vr19, vr20, vr21, vr22, vr23, vr24, vr25, vr26, vr27, vr28, vr29, vr30, vr31, vr32, vr33, vr34, opS, fpS, extO, okP, pack, nAl, allocA, shId, leaves, fillA, fillR, splice, Nat.reduceLT, Nat.reduceEqDiff, Nat.reduceLeDiff, Nat.reduceAdd, Nat.reduceSub, Nat.reduceMul, Int.reduceBEq, Int.reduceBNe, Int.reduceLT, Int.reduceLE, Int.reduceEq, reduceIte, reduceCtorEq, da, int, boolA, h5]
  | succ d ih =>
    intro i f hd h0 h1 h5 h6
    have g1 : ((i : Int) < l.length) = True := by simp; omega
    have gi : i < l.length := by omega
    have w1 := wrap_succ (show i < 9223372036854775807 by omega)
    have hmi := hm _ (List.getElem_mem gi)
    have bx := mayM_iff.1 hmi
    have hee : endM l[i] = l[i].1 + l[i].2 := rfl
    have e1 : (l[i].1.toNat : Int) = l[i].1 := by omega
    rw [AW_loop]
    unfold c37L2
    simp only [↓vp, vq0, vq1, vq2, vq3, vr0, vr1, vr2, vr3, vr4, vr5, vr6, vr7, vr8, vr9, vr10, vr11, vr12, vr13, vr14, vr15, vr16, vr17, vr18, vr19, vr20, vr21, vr22, vr23, vr24, vr25, vr26, vr27, vr28, vr29, vr30, vr31, vr32, vr33, vr34, opS, fpS, extO, okP, pack, nAl, allocA, shId, leaves, fillA, fillR, splice, Nat.reduceLT, Nat.reduceEqDiff, Nat.reduceLeDiff, Nat.reduceAdd, Nat.reduceSub, Nat.reduceMul, Int.reduceBEq, Int.reduceBNe, Int.reduceLT, Int.reduceLE, Int.reduceEq, reduceIte, reduceCtorEq, da, int, boolA, dr, h0, h6, g1, atR gi, cR gi, runC]
    refine l37a l i gi hmi n hn (fillL s0 (l.take (i + 1))) (fun f' q0 q1 q5 q6 => ?_) ((endM l[i]).toNat - l[i].1.toNat) l[i].1.toNat (fillL s0 (l.take i)) _ (by omega) (by rw [fillL_len, hs0]) (fillL_take gi).symm ?_ ?_ ?_ ?_ ?_
    · unfold c37R1
      simp only [↓vp, vq0, vq1, vq2, vq3, vr0, vr1, vr2, vr3, vr4, vr5, vr6, vr7, vr8, vr9, vr10, vr11, vr12, vr13, vr14, vr15, vr16, vr17, vr18, vr19, vr20, vr21, vr22, vr23, vr24, vr25, vr26, vr27, vr28, vr29, vr30, vr31, vr32, vr33, vr34, opS, fpS, extO, okP, pack, nAl, allocA, shId, leaves, fillA, fillR, splice, Nat.reduceLT, Nat.reduceEqDiff, Nat.reduceLeDiff, Nat.reduceAdd, Nat.reduceSub, Nat.reduceMul, Int.reduceBEq, Int.reduceBNe, Int.reduceLT, Int.reduceLE, Int.reduceEq, reduceIte, reduceCtorEq, da, int, boolA, q6, w1]
      refine ih (i + 1) _ (by omega) ?_ ?_ ?_ ?_ <;> simp only [↓vp, vq0, vq1, vq2, vq3, vr0, vr1, vr2, vr3, vr4, vr5, vr6, vr7, vr8, vr9, vr10, vr11, vr12, vr13, vr14, vr15, vr16, vr17, vr18, vr19, vr20, vr21, vr22, vr23, vr24, vr25, vr26, vr27, vr28, vr29, vr30, vr31, vr32, vr33, vr34, opS, fpS, extO, okP, pack, nAl, allocA, shId, leaves, fillA, fillR, splice, Nat.reduceLT, Nat.reduceEqDiff, Nat.reduceLeDiff, Nat.reduceAdd, Nat.reduceSub, Nat.reduceMul, Int.reduceBEq, Int.reduceBNe, Int.reduceLT, Int.reduceLE, Int.reduceEq, reduceIte, reduceCtorEq, da, int, boolA, q0, q1, q5]
    all_goals simp only [↓vp, vq0, vq1, vq2, vq3, vr0, vr1, vr2, vr3, vr4, vr5, vr6, vr7, vr8, vr9, vr10, vr11, vr12, vr13, vr14, vr15, vr16, vr17, vr18, vr19, vr20, vr21, vr22, vr23, vr24, vr25, vr26, vr27, vr28, vr29, vr30, vr31, vr32, vr33, vr34, opS, fpS, extO, okP, pack, nAl, allocA, shId, leaves, fillA, fillR, splice, Nat.reduceLT, Nat.reduceEqDiff, Nat.reduceLeDiff, Nat.reduceAdd, Nat.reduceSub, Nat.reduceMul, Int.reduceBEq, Int.reduceBNe, Int.reduceLT, Int.reduceLE, Int.reduceEq, reduceIte, reduceCtorEq, da, int, boolA, h0, h1, h5, h6, e1]
theorem s37 (l : List RunM) (hl : l.length ≤ 1000000) (n : Nat) (h0 : 0 < n) (hn : n ≤ 100000) (H : Heap) : callL ft (.fn (.func 37) [] []) [encR l, int n] H = some (.sl H.next 0 n, hx H [.row false 1 ((setM l n).map bitC)]) := by
  refine call_o rfl (by simp) ?_
  unfold c37 r37 RetO
  have kr := fun K L Q => @k41 l hl K L Q
  have g1 : ((n : Int) < 0) = False := eq_false (by omega)
  have d1 : ((0 : Int) ≤ n) = True := eq_true (by omega)
  have d2 : (n * 1 ≤ 281474976710656) = True := eq_true (by omega)
  have hrep : List.replicate n [AV.sc (.bool false)] = (List.replicate n false).map bitC := by simp [bitC, boolA]
  cases e : rightM l with
  | false =>
    have es : setM l n = List.replicate n false := by unfold setM cleanM; rw [e]; rfl
    rw [e] at kr
    rw [es]
    simp only [↓vp, vq0, vq1, vq2, vq3, vr0, vr1, vr2, vr3, vr4, vr5, vr6, vr7, vr8, vr9, vr10, vr11, vr12, vr13, vr14, vr15, vr16, vr17, vr18, vr19, vr20, vr21, vr22, vr23, vr24, vr25, vr26, vr27, vr28, vr29, vr30, vr31, vr32, vr33, vr34, opS, fpS, extO, okP, pack, nAl, allocA, shId, leaves, fillA, fillR, splice, Nat.reduceLT, Nat.reduceEqDiff, Nat.reduceLeDiff, Nat.reduceAdd, Nat.reduceSub, Nat.reduceMul, Int.reduceBEq, Int.reduceBNe, Int.reduceLT, Int.reduceLE, Int.reduceEq, reduceIte, reduceCtorEq, da, int, boolA, dr, kr, Int.toNat_natCast, hrep, d1, d2]
    rw [if_pos ⟨by omega, by omega⟩, res_tmp (by decide)]
    simp only [↓vp, vq0, vq1, vq2, vq3, vr0, vr1, vr2, vr3, vr4, vr5, vr6, vr7, vr8, vr9, vr10, vr11, vr12, vr13, vr14, vr15, vr16, vr17, vr18, vr19, vr20, vr21, vr22, vr23, vr24, vr25, vr26, vr27, vr28, vr29, vr30, vr31, vr32, vr33, vr34, opS, fpS, extO, okP, pack, nAl, allocA, shId, leaves, fillA, fillR, splice, Nat.reduceLT, Nat.reduceEqDiff, Nat.reduceLeDiff, Nat.reduceAdd, Nat.reduceSub, Nat.reduceMul, Int.reduceBEq, Int.reduceBNe, Int.reduceLT, Int.reduceLE, Int.reduceEq, reduceIte, reduceCtorEq]
  | true =>
    have es : setM l n = fillL (List.replicate n false) l := by unfold setM cleanM; rw [e]; rfl
    have hmay : ∀ x ∈ l, mayM x = true := rgt_may e
    rw [e] at kr
    rw [es]
    simp only [↓vp, vq0, vq1, vq2, vq3, vr0, vr1, vr2, vr3, vr4, vr5, vr6, vr7, vr8, vr9, vr10, vr11, vr12, vr13, vr14, vr15, vr16, vr17, vr18, vr19, vr20, vr21, vr22, vr23, vr24, vr25, vr26, vr27, vr28, vr29, vr30, vr31, vr32, vr33, vr34, opS, fpS, extO, okP, pack, nAl, allocA, shId, leaves, fillA, fillR, splice, Nat.reduceLT, Nat.reduceEqDiff, Nat.reduceLeDiff, Nat.reduceAdd, Nat.reduceSub, Nat.reduceMul, Int.reduceBEq, Int.reduceBNe, Int.reduceLT, Int.reduceLE, Int.reduceEq, reduceIte, reduceCtorEq, da, int, boolA, dr, kr, Int.toNat_natCast, hrep, d1, d2]
    rw [if_pos ⟨by omega, by omega⟩]
    refine l37 l hl hmay n hn (List.replicate n false) (by simp) (fun f' q5 => ?_) l.length 0 _ (by simp) ?_ ?_ ?_ ?_
    · unfold c37R3
      simp only [↓vp, vq0, vq1, vq2, vq3, vr0, vr1, vr2, vr3, vr4, vr5, vr6, vr7, vr8, vr9, vr10, vr11, vr12, vr13, vr14, vr15, vr16, vr17, vr18, vr19, vr20, vr21, vr22, vr23, vr24, vr25, vr26, vr27, vr28, vr29, vr30, vr31, vr32, vr33, vr34, opS, fpS, extO, okP, pack, nAl, allocA, shId, leaves, fillA, fillR, splice, Nat.reduceLT, Nat.reduceEqDiff, Nat.reduceLeDiff, Nat.reduceAdd, Nat.reduceSub, Nat.reduceMul, Int.reduceBEq, Int.reduceBNe, Int.reduceLT, Int.reduceLE, Int.reduceEq, reduceIte, reduceCtorEq, da, int, boolA, q5]
      rw [res_tmp (by decide)]
      simp only [↓vp, vq0, vq1, vq2, vq3, vr0, vr1, vr2, vr3, vr4, vr5, vr6, vr7, vr8, vr9, vr10, vr11, vr12, vr13, vr14, vr15, vr16, vr17, vr18, vr19, vr20, vr21, vr22, vr23, vr24, vr25, vr26, vr27, vr28, vr29, vr30, vr31, vr32, vr33, vr34, opS, fpS, extO, okP, pack, nAl, allocA, shId, leaves, fillA, fillR, splice, Nat.reduceLT, Nat.reduceEqDiff, Nat.reduceLeDiff, Nat.reduceAdd, Nat.reduceSub, Nat.reduceMul, Int.reduceBEq, Int.reduceBNe, Int.reduceLT, Int.reduceLE, Int.reduceEq, reduceIte, reduceCtorEq, da, int, boolA]
    all_goals first | rfl | (simp only [↓vp, vq0, vq1, vq2, vq3, vr0, vr1, vr2, vr3, vr4, vr5, vr6, vr7, vr8, vr9, vr10, vr11, vr12, vr13, vr14, vr15, vr16, vr17, vr18, vr19, vr20, vr21, vr22, vr23, vr24, vr25, vr26, vr27, vr28, vr29, vr30, vr31, vr32, vr33, vr34, opS, fpS, extO, okP, pack, nAl, allocA, shId, leaves, fillA, fillR, splice, Nat.reduceLT, Nat.reduceEqDiff, Nat.reduceLeDiff, Nat.reduceAdd, Nat.reduceSub, Nat.reduceMul, Int.reduceBEq, Int.reduceBNe, Int.reduceLT, Int.reduceLE, Int.reduceEq, reduceIte, reduceCtorEq, da, int, boolA]; done)
end Go.VI

set_option linter.unusedVariables false
set_option linter.unusedSimpArgs false
set_option maxRecDepth 100000
namespace Go.VI
attribute [local congr] AW_congr OW_congr DW_congr NW_congr VW_congr GW_congr PW_congr KW_congr ite_congr' GV_congr CV_congr
/-- A row of yes and no that is read. -/
def Src (B : Nat) (K : Heap) (V : AV) (s : List Bool) : Prop := V = encT s ∨ ∃ id fz, id < B ∧ V = .sl id 0 s.length ∧ K.get id = some (.row fz 1 (s.map bitC))
theorem src_len {B : Nat} {K : Heap} {V : AV} {s : List Bool} (h : Src B K V s) (H : Heap) : lenV H 0 V = some (.sc (.int .i64 (s.length : Int)), H) := by
  rcases h with rfl | ⟨id, fz, _, rfl, _⟩
  · exact lenT s
  · rfl
theorem src_at {B : Nat} {K : Heap} {V : AV} {s : List Bool} (h : Src B K V s) {i : Nat} (hi : i < s.length) : ∃ P, (∀ L, iaddrA (hx K L) none 1 V (i : Int) = some P) ∧ ∀ L, cellsAt (hx K L) P 1 = some [.sc (.bool s[i])] := by
  rcases h with rfl | ⟨id, fz, _, rfl, hg⟩
  · exact ⟨_, fun L => atT hi, fun L => cT hi⟩
  · refine ⟨.ptr id i 0, fun L => ia_row (get_old hg L) hi, fun L => ?_⟩
    rw [cells_row (get_old hg L) (r := bitC s[i]) (by rw [List.getElem?_map, List.getElem?_eq_getElem hi]; rfl)]
    rfl
theorem Src.mono {B : Nat} {K K' : Heap} {V : AV} {s : List Bool} (h : Src B K V s) (hk : ∀ id b, id < B → K.get id = some b → K'.get id = some b) : Src B K' V s := by
  rcases h with h | ⟨id, fz, h1, h2, h3⟩
  · exact .inl h
  · exact .inr ⟨id, fz, h1, h2, hk id _ h1 h3⟩
/-- What was there is there. -/
def KeepB (B : Nat) (K K' : Heap) : Prop := ∀ id b, id < B → K.get id = some b → K'.get id = some b
def incL (out : List RunM) : List RunM := match out.getLast? with
  | none => out
  | some y => out.set (out.length - 1) (y.1, y.2 + 1)
theorem incL_some {out : List RunM} {m : Nat} (h : out.length = m + 1) : incL out = out.set m ((out[m]'(by omega)).1, (out[m]'(by omega)).2 + 1) := by
  have e : out.length - 1 = m := by omega
  unfold incL
  rw [List.getLast?_eq_getElem?, e, List.getElem?_eq_getElem (by omega)]
theorem incL_snoc (out : List RunM) (x : RunM) : incL (out ++ [x]) = out ++ [(x.1, x.2 + 1)] := by
  rw [incL_some (m := out.length) (by simp)]
  simp
def runStep (prev b : Bool) (p : Nat) (out : List RunM) : List RunM := if b then (if prev then incL out else out ++ [((p : Int), 1)]) else out
def prevT (s : List Bool) (i : Nat) : Bool := decide (0 < i) && s.getD (i - 1) false
def runsT (s : List Bool) : Nat → List RunM
  | 0 => []
  | i + 1 => runStep (prevT s i) (s.getD i false) i (runsT s i)
def runsM (s : List Bool) : List RunM := runsT s s.length
theorem runsT_inv (s : List Bool) : ∀ i, (prevT s i = true → runsT s i ≠ []) ∧ (runsT s i).length ≤ i ∧ ∀ x ∈ runsT s i, 0 ≤ x.2 ∧ x.2 ≤ i
  | 0 => ⟨by simp [prevT], by simp [runsT], by simp [runsT]⟩
  | i + 1 => by
    obtain ⟨h1, h2, h3⟩ := runsT_inv s i
    have hp : prevT s (i + 1) = s.getD i false := by simp [prevT]
    rw [hp]
    unfold runsT runStep
    cases e : s.getD i false with
    | false =>
      refine ⟨by simp, by simp; omega, ?_⟩
      simp only [Bool.false_eq_true, if_false]
      intro x hx
      have := h3 x hx
      omega
    | true =>
      simp only [if_true]
      cases ep : prevT s i with
      | false =>
        simp only [Bool.false_eq_true, if_false]
        refine ⟨by simp, by simp; omega, fun x hx => ?_⟩
        rcases List.mem_append.1 hx with hx | hx
        · have := h3 x hx
          omega
        · simp at hx
          rw [hx]
          simp
          omega
      | true =>
        simp only [if_true]
        have hne := h1 ep
        obtain ⟨m, hm⟩ : ∃ m, (runsT s i).length = m + 1 := ⟨(runsT s i).length - 1, by have := List.length_pos_iff.2 hne; omega⟩
        rw [incL_some hm]
        refine ⟨fun _ h => ?_, by rw [List.length_set]; omega, fun x hx => ?_⟩
        · have := congrArg List.length h
          simp at this
          exact hne this
        · rcases List.mem_or_eq_of_mem_set hx with hx | rfl
          · have := h3 x hx
            omega
          · have := h3 _ (List.getElem_mem (show m < (runsT s i).length by omega))
            simp only
            omega
section
variable {T : FT}
theorem l48 (s : List Bool) (hs : s.length ≤ 100000) (B : Nat) (V : AV) (K0 : Heap) (hsrc0 : Src B K0 V s) {Q : AExit → Env → Heap → Prop}
   (hex : ∀ f' K S, RepB B K 2 S ((runsM s).map runC) → KeepB B K0 K → f' 3 = S → Q (.exit 0) (mkE 51 f') (hx K [])) :
   ∀ (d i : Nat) (S : AV) (K : Heap) (f : Nat → AV), i + d = s.length → RepB B K 2 S ((runsT s i).map runC) → KeepB B K0 K → B ≤ K.next → f 0 = V → f 3 = S → f 4 = int i →
    AW T (.loop c48L0) (mkE 51 f) (hx K []) Q := by
  intro d
  induction d with
  | zero =>
    intro i S K f hd hr hk hB h0 h3 h4
    have hsrc := hsrc0.mono hk
    have g : ((i : Int) < s.length) = False := by simp; omega
    have ln := src_len hsrc
    rw [AW_loop]
    unfold c48L0
    have e : i = s.length := by omega
    rw [e] at hr
    simp only [↓vp, vq0, vq1, vq2, vq3, vr0, vr1, vr2, vr3, vr4, vr5, vr6, vr7, vr8, vr9, vr10, vr11, vr12, vr13, vr14, vr15, vr16, vr17, vr18, vr19, vr20, vr21, vr22, vr23, vr24, vr25, vr26, vr27, vr28, vr29, vr30, vr31, vr32, vr33, vr34, opS, fpS, extO, okP, pack, nAl, allocA, shId, leaves, fillA, fillR, splice, Nat.reduceLT, Nat.reduceEqDiff, Nat.reduceLeDiff, Nat.reduceAdd, Nat.reduceSub, Nat.reduceMul, Int.reduceBEq, Int.reduceBNe, Int.reduceLT, Int.reduceLE, Int.reduceEq, reduceIte, reduceCtorEq, da, int, boolA, dr, h0, h4, ln, g]
    refine hex _ K S hr hk ?_
    simp only [↓vp, vq0, vq1, vq2, vq3, vr0, vr1, vr2, vr3, vr4, vr5, vr6, vr7, vr8, vr9, vr10, vr11, vr12, vr13, vr14, vr15, vr16, vr17, vr18, vr19, vr20, vr21, vr22, vr23, vr24, vr25, vr26, vr27, vr28, vr29, vr30, vr31, vr32, vr33, vr34, opS, fpS, extO, okP, pack, nAl, allocA, shId, leaves, fillA, fillR, splice, Nat.reduceLT, Nat.reduceEqDiff, Nat.reduceLeDiff, Nat.reduceAdd, Nat.reduceSub, Nat.reduceMul, Int.reduceBEq, Int.reduceBNe, Int.reduceLT, Int.reduceLE, Int.reduceEq, reduceIte, reduceCtorEq, da, int, boolA, h3]
  | succ d ih =>
    intro i S K f hd hr hk hB h0 h3 h4
    have hsrc := hsrc0.mono hk
    have g1 : ((i : Int) < s.length) = True := by simp; omega
    have gi : i < s.length := by omega
    have w1 := wrap_succ (show i < 9223372036854775807 by omega)
    have ln := src_len hsrc
    obtain ⟨P, iP, cP⟩ := src_at hsrc gi
    obtain ⟨i1, i2, i3⟩ := runsT_inv s i
    have eb : s.getD i false = s[i] := by simp [gi]
    have hstep : runsT s (i + 1) = runStep (prevT s i) s[i] i (runsT s i) := by rw [← eb]; rfl
    have lr := fun H => len_rep (H := H) hr.rep
    rw [List.length_map] at lr
    cases b : s[i] with
    | false =>
      rw [AW_loop]
      unfold c48L0
      rw [b] at cP hstep
      simp only [runStep, Bool.false_eq_true, if_false] at hstep
      simp only [↓vp, vq0, vq1, vq2, vq3, vr0, vr1, vr2, vr3, vr4, vr5, vr6, vr7, vr8, vr9, vr10, vr11, vr12, vr13, vr14, vr15, vr16, vr17, vr18, vr19, vr20, vr21, vr22, vr23, vr24, vr25, vr26, vr27, vr28, vr29, vr30, vr31, vr32, vr33, vr34, opS, fpS, extO, okP, pack, nAl, allocA, shId, leaves, fillA, fillR, splice, Nat.reduceLT, Nat.reduceEqDiff, Nat.reduceLeDiff, Nat.reduceAdd, Nat.reduceSub, Nat.reduceMul, Int.reduceBEq, Int.reduceBNe, Int.reduceLT, Int.reduceLE, Int.reduceEq, reduceIte, reduceCtorEq, da, int, boolA, dr, h0, h3, h4, ln, g1, iP, cP, w1]
      refine ih (i + 1) S K _ (by omega) (by rw [hstep]; exact hr) hk hB ?_ ?_ ?_ <;> simp only [↓vp, vq0, vq1, vq2, vq3, vr0, vr1, vr2, vr3, vr4, vr5, vr6, vr7, vr8, vr9, vr10, vr11, vr12, vr13, vr14, vr15, vr16, vr17, vr18, vr19, vr20, vr21, vr22, vr23, vr24, vr25, vr26, vr27, vr28, vr29, vr30, vr31, vr32, vr33, vr34, opS, fpS, extO, okP, pack, nAl, allocA, shId, leaves, fillA, fillR, splice, Nat.reduceLT, Nat.reduceEqDiff, Nat.reduceLeDiff, Nat.reduceAdd, Nat.reduceSub, Nat.reduceMul, Int.reduceBEq, Int.reduceBNe, Int.reduceLT, Int.reduceLE, Int.reduceEq, reduceIte, reduceCtorEq, da, int, boolA, h0, h3]
    | true =>
      rw [b] at cP hstep
      simp only [runStep, if_true] at hstep
      have hsk : Src B (kill K S) V s := hsrc.mono fun id b hid hg => kill_keep hr hg hid
      obtain ⟨P2, iP2, cP2⟩ := src_at hsk gi
      rw [b] at cP2
      have m0 : (runsT s i).length ≤ 100000 := by omega
      -- what is done behind the first test
      have put : prevT s i = false → AW T (.loop c48L0) (mkE 51 f) (hx K []) Q := by
        intro ep
        rw [ep] at hstep
        simp only [Bool.false_eq_true, if_false] at hstep
        generalize ho : runsT s i = out at *
        generalize hm : out.length = m at *
        have ap := fun nid L => appA_rep (nid := nid) (bytes := 16) hr.rep (xs := [runC ((i : Int), 0)]) (by simp) rfl (by simp; omega) L
        rw [List.length_map, hm] at ap
        simp only [runC, int, List.length_singleton] at ap
        have e1 : IntKind.i64.wrap (((m + 1 : Nat) : Int) - 1) = (m : Int) := by rw [wrap_i64 (by omega)]; omega
        have gg : (hx (kill K S) [.row false 2 [[.sc (.int .i64 i), .sc (.int .i64 0)]], .row false 2 (out.map runC ++ [[.sc (.int .i64 i), .sc (.int .i64 0)]])]).get (K.next + 1) = some (.row false 2 (out.map runC ++ [[.sc (.int .i64 i), .sc (.int .i64 0)]])) := by
          have := hx_get (kill K S) [.row false 2 [[.sc (.int .i64 i), .sc (.int .i64 0)]], .row false 2 (out.map runC ++ [[.sc (.int .i64 i), .sc (.int .i64 0)]])] 1
          rw [kill_next] at this
          rw [this]
          rfl
        have rm : (out.map runC ++ [[AV.sc (.int .i64 i), .sc (.int .i64 0)]])[m]? = some [.sc (.int .i64 i), .sc (.int .i64 0)] := by
          rw [List.getElem?_append_right (by simp [hm])]
          simp [hm]
        have i2 := ia_row (len := m + 1) gg (show m < m + 1 by omega)
        have c2 := fun off n => cells_row (off := off) (n := n) gg rm
        have gs : ∀ r, (hx (kill K S) [.row false 2 [[.sc (.int .i64 i), .sc (.int .i64 0)]], .row false 2 (out.map runC ++ [[.sc (.int .i64 i), .sc (.int .i64 0)]])]).set (K.next + 1) r = hx (kill K S) [.row false 2 [[.sc (.int .i64 i), .sc (.int .i64 0)]], r] := fun r => by
          have := hx_set (kill K S) [.row false 2 [[.sc (.int .i64 i), .sc (.int .i64 0)]], .row false 2 (out.map runC ++ [[.sc (.int .i64 i), .sc (.int .i64 0)]])] r 1
          rw [kill_next] at this
          rw [this]
          rfl
        have w01 : IntKind.i64.wrap (0 + 1) = 1 := rfl
        have hshape : (out.map runC ++ [[AV.sc (.int .i64 i), .sc (.int .i64 0)]]).set m [.sc (.int .i64 i), .sc (.int .i64 1)] = (out ++ [((i : Int), 1)]).map runC := by
          rw [List.set_append_right _ _ (by simp [hm])]
          simp [hm, runC, int]
        have fin : ∀ f' : Nat → AV, f' 0 = V → f' 3 = .sl (K.next + 1) 0 (m + 1) → f' 4 = int ((i + 1 : Nat) : Int) → AW T (.loop c48L0) (mkE 51 f') (hx (hx (kill K S) [.row false 2 [[.sc (.int .i64 i), .sc (.int .i64 0)]], .row false 2 ((out ++ [((i : Int), 1)]).map runC)]) []) Q := fun f' q0 q3 q4 => by
          refine ih (i + 1) (.sl (K.next + 1) 0 (m + 1)) _ f' (by omega) (.inr ⟨K.next + 1, by omega, ?_, ?_⟩) ?_ ?_ q0 q3 q4
          · rw [hstep]
            simp [hm]
          · rw [hstep]
            have := hx_get (kill K S) [.row false 2 [[.sc (.int .i64 i), .sc (.int .i64 0)]], .row false 2 ((out ++ [((i : Int), 1)]).map runC)] 1
            rw [kill_next] at this
            rw [this]
            rfl
          · exact fun id b h1 h2 => get_old (kill_keep hr (hk id b h1 h2) h1) _
          · rw [hx_next, kill_next]
            omega
        rw [AW_loop]
        unfold c48L0
        cases i with
        | zero =>
          have z1 : (((0 : Nat) : Int) == 0) = true := rfl
          simp only [↓vp, vq0, vq1, vq2, vq3, vr0, vr1, vr2, vr3, vr4, vr5, vr6, vr7, vr8, vr9, vr10, vr11, vr12, vr13, vr14, vr15, vr16, vr17, vr18, vr19, vr20, vr21, vr22, vr23, vr24, vr25, vr26, vr27, vr28, vr29, vr30, vr31, vr32, vr33, vr34, opS, fpS, extO, okP, pack, nAl, allocA, shId, leaves, fillA, fillR, splice, Nat.reduceLT, Nat.reduceEqDiff, Nat.reduceLeDiff, Nat.reduceAdd, Nat.reduceSub, Nat.reduceMul, Int.reduceBEq, Int.reduceBNe, Int.reduceLT, Int.reduceLE, Int.reduceEq, reduceIte, reduceCtorEq, da, int, boolA, dr, h0, h3, h4, ln, g1, iP, cP, z1, ap, kill_next, iP2, cP2, e1, gg, rm, i2, c2, gs, w01, hshape, w1]
          rw [← hx_nil (hx _ _)]
          refine fin _ ?_ ?_ ?_ <;> simp only [↓vp, vq0, vq1, vq2, vq3, vr0, vr1, vr2, vr3, vr4, vr5, vr6, vr7, vr8, vr9, vr10, vr11, vr12, vr13, vr14, vr15, vr16, vr17, vr18, vr19, vr20, vr21, vr22, vr23, vr24, vr25, vr26, vr27, vr28, vr29, vr30, vr31, vr32, vr33, vr34, opS, fpS, extO, okP, pack, nAl, allocA, shId, leaves, fillA, fillR, splice, Nat.reduceLT, Nat.reduceEqDiff, Nat.reduceLeDiff, Nat.reduceAdd, Nat.reduceSub, Nat.reduceMul, Int.reduceBEq, Int.reduceBNe, Int.reduceLT, Int.reduceLE, Int.reduceEq, reduceIte, reduceCtorEq, da, int, boolA, h0]
        | succ j =>
          have gj : j < s.length := by omega
          have ej : s[j] = false := by
            have : prevT s (j + 1) = s[j] := by simp [prevT, gj]
            rw [← this]; exact ep
          obtain ⟨Pj, iPj, cPj⟩ := src_at hsrc gj
          rw [ej] at cPj
          have z1 : (((j + 1 : Nat) : Int) == 0) = false := by simp; omega
          have w2 : IntKind.i64.wrap (((j + 1 : Nat) : Int) - 1) = (j : Int) := by rw [wrap_i64 (by omega)]; omega
          simp only [↓vp, vq0, vq1, vq2, vq3, vr0, vr1, vr2, vr3, vr4, vr5, vr6, vr7, vr8, vr9, vr10, vr11, vr12, vr13, vr14, vr15, vr16, vr17, vr18, vr19, vr20, vr21, vr22, vr23, vr24, vr25, vr26, vr27, vr28, vr29, vr30, vr31, vr32, vr33, vr34, opS, fpS, extO, okP, pack, nAl, allocA, shId, leaves, fillA, fillR, splice, Nat.reduceLT, Nat.reduceEqDiff, Nat.reduceLeDiff, Nat.reduceAdd, Nat.reduceSub, Nat.reduceMul, Int.reduceBEq, Int.reduceBNe, Int.reduceLT, Int.reduceLE, Int.reduceEq, reduceIte, reduceCtorEq, da, int, boolA, dr, h0, h3, h4, ln, g1, iP, cP, z1, w2, iPj, cPj, ap, kill_next, iP2, cP2, e1, gg, rm, i2, c2, gs, w01, hshape, w1]
          rw [← hx_nil (hx _ _)]
          refine fin _ ?_ ?_ ?_ <;> simp only [↓vp, vq0, vq1, vq2, vq3, vr0, vr1, vr2, vr3, vr4, vr5, vr6, vr7, vr8, vr9, vr10, vr11, vr12, vr13, vr14, vr15, vr16, vr17, vr18, vr19, vr20, vr21, vr22, vr23, vr24, vr25, vr26, vr27, vr28, vr29, vr30, vr31, vr32, vr33, vr34, opS, fpS, extO, okP, pack, nAl, allocA, shId, leaves, fillA, fillR, splice, Nat.reduceLT, Nat.reduceEqDiff, Nat.reduceLeDiff, Nat.reduceAdd, Nat.reduceSub, Nat.reduceMul, Int.reduceBEq, Int.reduceBNe, Int.reduceLT, Int.reduceLE, Int.reduceEq, reduceIte, reduceCtorEq, da, int, boolA, h0]
      cases ep : prevT s i with
      | false => exact put ep
      | true =>
        rw [ep] at hstep
        simp only [if_true] at hstep
        obtain ⟨j, rfl⟩ : ∃ j, i = j + 1 := ⟨i - 1, by
          unfold prevT at ep
          rw [Bool.and_eq_true, decide_eq_true_eq] at ep
          omega⟩
        have gj : j < s.length := by omega
        have ej : s[j] = true := by
          have : prevT s (j + 1) = s[j] := by simp [prevT, gj]
          rw [← this]; exact ep
        obtain ⟨Pj, iPj, cPj⟩ := src_at hsrc gj
        rw [ej] at cPj
        have z1 : (((j + 1 : Nat) : Int) == 0) = false := by simp; omega
        have w2 : IntKind.i64.wrap (((j + 1 : Nat) : Int) - 1) = (j : Int) := by rw [wrap_i64 (by omega)]; omega
        have hne := i1 ep
        generalize ho : runsT s (j + 1) = out at *
        obtain ⟨m, hm⟩ : ∃ m, out.length = m + 1 := ⟨out.length - 1, by have := List.length_pos_iff.2 hne; omega⟩
        have gm : m < out.length := by omega
        rw [incL_some hm] at hstep
        obtain ⟨id, hid, hS, hg⟩ : ∃ id, B ≤ id ∧ S = .sl id 0 out.length ∧ K.get id = some (.row false 2 (out.map runC)) := by
          rcases hr with ⟨_, h⟩ | ⟨id, h1, h2, h3⟩
          · rw [List.map_eq_nil_iff] at h
            exact absurd h hne
          · rw [List.length_map] at h2
            exact ⟨id, h1, h2, h3⟩
        have lid := Heap.get_lt hg
        have e1 : IntKind.i64.wrap ((out.length : Int) - 1) = (m : Int) := by rw [wrap_i64 (by omega)]; omega
        have ib : ∀ L, iaddrA (hx K L) none 2 S (m : Int) = some (.ptr id m 0) := fun L => by rw [hS]; exact ia_rr (H := hx K L) (get_old hg L) gm
        have cb := fun L off n => c_rr (H := hx K L) (off := off) (n := n) (get_old hg L) gm
        have gg := fun L => get_old (L := L) hg
        have gs : ∀ L b, (hx K L).set id b = hx (K.set id b) L := fun L b => hx_set_old K L b id lid
        have rm : (out.map runC)[m]? = some [.sc (.int .i64 out[m].1), .sc (.int .i64 out[m].2)] := by rw [List.getElem?_map, List.getElem?_eq_getElem gm]; rfl
        have b3 := i3 _ (List.getElem_mem gm)
        have w3 : IntKind.i64.wrap (out[m].2 + 1) = out[m].2 + 1 := wrap_i64 (by omega)
        have hshape : (out.map runC).set m [.sc (.int .i64 out[m].1), .sc (.int .i64 (out[m].2 + 1))] = (runsT s (j + 1 + 1)).map runC := by
          rw [hstep, List.map_set]
          rfl
        have hlen : (runsT s (j + 1 + 1)).length = out.length := by rw [hstep, List.length_set]
        rw [AW_loop]
        unfold c48L0
        simp only [↓vp, vq0, vq1, vq2, vq3, vr0, vr1, vr2, vr3, vr4, vr5, vr6, vr7, vr8, vr9, vr10, vr11, vr12, vr13, vr14, vr15, vr16, vr17, vr18, vr19, vr20, vr21, vr22, vr23, vr24, vr25, vr26, vr27, vr28, vr29, vr30, vr31, vr32, vr33, vr34, opS, fpS, extO, okP, pack, nAl, allocA, shId, leaves, fillA, fillR, splice, Nat.reduceLT, Nat.reduceEqDiff, Nat.reduceLeDiff, Nat.reduceAdd, Nat.reduceSub, Nat.reduceMul, Int.reduceBEq, Int.reduceBNe, Int.reduceLT, Int.reduceLE, Int.reduceEq, reduceIte, reduceCtorEq, da, int, boolA, dr, h0, h3, h4, ln, lr, g1, iP, cP, z1, w2, iPj, cPj, e1, ib, cb, runC, gg, rm, w3, gs, hshape, w1]
        refine ih (j + 1 + 1) S (K.set id (.row false 2 ((runsT s (j + 1 + 1)).map runC))) _ (by omega) (.inr ⟨id, hid, ?_, ?_⟩) ?_ ?_ ?_ ?_ ?_
        · rw [List.length_map, hlen, hS]
        · rw [Heap.get_set_self _ lid]
        · intro id2 b h1 h2
          rw [Heap.get_set_ne _ (by omega), hk id2 b h1 h2]
        · rw [Heap.next_set]
          exact hB
        all_goals simp only [↓vp, vq0, vq1, vq2, vq3, vr0, vr1, vr2, vr3, vr4, vr5, vr6, vr7, vr8, vr9, vr10, vr11, vr12, vr13, vr14, vr15, vr16, vr17, vr18, vr19, vr20, vr21, vr22, vr23, vr24, vr25, vr26, vr27, vr28, vr29, vr30, vr31, vr32, vr33, vr34, opS, fpS, extO, okP, pack, nAl, allocA, shId, leaves, fillA, fillR, splice, Nat.reduceLT, Nat.reduceEqDiff, Nat.reduceLeDiff, Nat.reduceAdd, Nat.reduceSub, Nat.reduceMul, Int.reduceBEq, Int.reduceBNe, Int.reduceLT, Int.reduceLE, Int.reduceEq, reduceIte, reduceCtorEq, da, int, boolA, h0, h3]
theorem p48 (hT : T 48 = some (.go true 51 r48 c48)) (s : List Bool) (hs : s.length ≤ 100000) {args : List AV} {H H1 : Heap} (hz : frzCells H args = some ([encT s], H1)) : callL T (.fn (.func 48) [] []) args H = some (encR (runsM s), H1) := by
  refine call_p (as' := [encT s]) hT (by simpa using hz) (by simp) ?_
  unfold c48 r48
  simp only [↓vp, vq0, vq1, vq2, vq3, vr0, vr1, vr2, vr3, vr4, vr5, vr6, vr7, vr8, vr9, vr10, vr11, vr12, vr13, vr14, vr15, vr16, vr17, vr18, vr19, vr20, vr21, vr22, vr23, vr24, vr25, vr26, vr27, vr28, vr29, vr30, vr31, vr32, vr33, vr34, opS, fpS, extO, okP, pack, nAl, allocA, shId, leaves, fillA, fillR, splice, Nat.reduceLT, Nat.reduceEqDiff, Nat.reduceLeDiff, Nat.reduceAdd, Nat.reduceSub, Nat.reduceMul, Int.reduceBEq, Int.reduceBNe, Int.reduceLT, Int.reduceLE, Int.reduceEq, reduceIte, reduceCtorEq, da, int, boolA, dr]
  rw [← hx_nil (Heap.empty)]
  refine l48 s hs 0 (encT s) Heap.empty (.inl rfl) (fun f' K S hr hk h3 => ?_) s.length 0 (.sc (.slice none 0 0)) _ _ (by simp) (.inl ⟨rfl, rfl⟩) (fun _ _ _ h => h) (Nat.zero_le _) ?_ ?_ ?_
  · unfold c48R1
    obtain ⟨K', hz⟩ := frz_rep (L := []) (by rw [hx_nil]; exact hr.rep) 23
    simp only [↓vp, vq0, vq1, vq2, vq3, vr0, vr1, vr2, vr3, vr4, vr5, vr6, vr7, vr8, vr9, vr10, vr11, vr12, vr13, vr14, vr15, vr16, vr17, vr18, vr19, vr20, vr21, vr22, vr23, vr24, vr25, vr26, vr27, vr28, vr29, vr30, vr31, vr32, vr33, vr34, opS, fpS, extO, okP, pack, nAl, allocA, shId, leaves, fillA, fillR, splice, Nat.reduceLT, Nat.reduceEqDiff, Nat.reduceLeDiff, Nat.reduceAdd, Nat.reduceSub, Nat.reduceMul, Int.reduceBEq, Int.reduceBNe, Int.reduceLT, Int.reduceLE, Int.reduceEq, reduceIte, reduceCtorEq, h3]
    refine ret1 rfl (by decide) ?_
    simp only [↓vp, vq0, vq1, vq2, vq3, vr0, vr1, vr2, vr3, vr4, vr5, vr6, vr7, vr8, vr9, vr10, vr11, vr12, vr13, vr14, vr15, vr16, vr17, vr18, vr19, vr20, vr21, vr22, vr23, vr24, vr25, vr26, vr27, vr28, vr29, vr30, vr31, vr32, vr33, vr34, opS, fpS, extO, okP, pack, nAl, allocA, shId, leaves, fillA, fillR, splice, Nat.reduceLT, Nat.reduceEqDiff, Nat.reduceLeDiff, Nat.reduceAdd, Nat.reduceSub, Nat.reduceMul, Int.reduceBEq, Int.reduceBNe, Int.reduceLT, Int.reduceLE, Int.reduceEq, reduceIte, reduceCtorEq]
    exact ⟨K', hz⟩
  all_goals first | rfl | (simp only [↓vp, vq0, vq1, vq2, vq3, vr0, vr1, vr2, vr3, vr4, vr5, vr6, vr7, vr8, vr9, vr10, vr11, vr12, vr13, vr14, vr15, vr16, vr17, vr18, vr19, vr20, vr21, vr22, vr23, vr24, vr25, vr26, vr27, vr28, vr29, vr30, vr31, vr32, vr33, vr34, opS, fpS, extO, okP, pack, nAl, allocA, shId, leaves, fillA, fillR, splice, Nat.reduceLT, Nat.reduceEqDiff, Nat.reduceLeDiff, Nat.reduceAdd, Nat.reduceSub, Nat.reduceMul, Int.reduceBEq, Int.reduceBNe, Int.reduceLT, Int.reduceLE, Int.reduceEq, reduceIte, reduceCtorEq, da, int, boolA]; done)
end
/-- Right runs may be told of an open call. -/
theorem call_oW {ft : FT} {k : FuncId} {args : List AV} {H : Heap} {n : Nat} {rs : List ARes} {body : ACode} {P : AV → Heap → Prop} (hk : ft k = some (.go false n rs body)) (hl : args.length ≤ n)
    (h : AW ft body (mkE n (ofL args)) H fun x e H' => leaves x = true ∧ ∃ R, resultsA H' e rs = some R ∧ P R H') : KW ft (.fn (.func k) [] []) args H P := by
  rw [← enterE_mkE _ _ hl] at h
  obtain ⟨x, e, Hc, h, hx, R, hr, hp⟩ := h
  refine ⟨R, Hc, ?_, hp⟩
  rw [callL_fn]
  unfold callF
  simp only [hk, List.nil_append, List.append_nil, h, Option.bind_some, if_pos hx, hr, Option.map_some]
theorem o48 {T : FT} (hT : T 48 = some (.go false 51 r48 c48)) (s : List Bool) (hs : s.length ≤ 100000) {V : AV} {K : Heap} (hsrc : Src K.next K V s) {Q : AV → Heap → Prop}
    (hq : ∀ S K', RepB K.next K' 2 S ((runsM s).map runC) → KeepB K.next K K' → Q S K') : KW T (.fn (.func 48) [] []) [V] K Q := by
  refine call_oW hT (by simp) ?_
  unfold c48 r48
  rw [← hx_nil K]
  simp only [↓vp, vq0, vq1, vq2, vq3, vr0, vr1, vr2, vr3, vr4, vr5, vr6, vr7, vr8, vr9, vr10, vr11, vr12, vr13, vr14, vr15, vr16, vr17, vr18, vr19, vr20, vr21, vr22, vr23, vr24, vr25, vr26, vr27, vr28, vr29, vr30, vr31, vr32, vr33, vr34, opS, fpS, extO, okP, pack, nAl, allocA, shId, leaves, fillA, fillR, splice, Nat.reduceLT, Nat.reduceEqDiff, Nat.reduceLeDiff, Nat.reduceAdd, Nat.reduceSub, Nat.reduceMul, Int.reduceBEq, Int.reduceBNe, Int.reduceLT, Int.reduceLE, Int.reduceEq, reduceIte, reduceCtorEq, da, int, boolA, dr]
  rw [hx_nil]
  rw [← hx_nil K]
  refine l48 s hs K.next V K hsrc (fun f' K' S hr hk h3 => ?_) s.length 0 (.sc (.slice none 0 0)) K _ (by simp) (.inl ⟨rfl, rfl⟩) (fun _ _ _ h => h) (Nat.le_refl _) ?_ ?_ ?_
  · unfold c48R1
    simp only [↓vp, vq0, vq1, vq2, vq3, vr0, vr1, vr2, vr3, vr4, vr5, vr6, vr7, vr8, vr9, vr10, vr11, vr12, vr13, vr14, vr15, vr16, vr17, vr18, vr19, vr20, vr21, vr22, vr23, vr24, vr25, vr26, vr27, vr28, vr29, vr30, vr31, vr32, vr33, vr34, opS, fpS, extO, okP, pack, nAl, allocA, shId, leaves, fillA, fillR, splice, Nat.reduceLT, Nat.reduceEqDiff, Nat.reduceLeDiff, Nat.reduceAdd, Nat.reduceSub, Nat.reduceMul, Int.reduceBEq, Int.reduceBNe, Int.reduceLT, Int.reduceLE, Int.reduceEq, reduceIte, reduceCtorEq, h3]
    refine ⟨_, res_tmp (by decide), ?_⟩
    simp only [↓vp, vq0, vq1, vq2, vq3, vr0, vr1, vr2, vr3, vr4, vr5, vr6, vr7, vr8, vr9, vr10, vr11, vr12, vr13, vr14, vr15, vr16, vr17, vr18, vr19, vr20, vr21, vr22, vr23, vr24, vr25, vr26, vr27, vr28, vr29, vr30, vr31, vr32, vr33, vr34, opS, fpS, extO, okP, pack, nAl, allocA, shId, leaves, fillA, fillR, splice, Nat.reduceLT, Nat.reduceEqDiff, Nat.reduceLeDiff, Nat.reduceAdd, Nat.reduceSub, Nat.reduceMul, Int.reduceBEq, Int.reduceBNe, Int.reduceLT, Int.reduceLE, Int.reduceEq, reduceIte, reduceCtorEq]
    rw [hx_nil]
    exact hq _ _ hr hk
  all_goals first | rfl | (simp only [↓vp, vq0, vq1, vq2, vq3, vr0, vr1, vr2, vr3, vr4, vr5, vr6, vr7, vr8, vr9, vr10, vr11, vr12, vr13, vr14, vr15, vr16, vr17, vr18, vr19, vr20, vr21, vr22, vr23, vr24, vr25, vr26, vr27, vr28, vr29, vr30, vr31, vr32, vr33, vr34, opS, fpS, extO, okP, pack, nAl, allocA, shId, leaves, fillA, fillR, splice, Nat.reduceLT, Nat.reduceEqDiff, Nat.reduceLeDiff, Nat.reduceAdd, Nat.reduceSub, Nat.reduceMul, Int.reduceBEq, Int.reduceBNe, Int.reduceLT, Int.reduceLE, Int.reduceEq, reduceIte, reduceCtorEq, da, int, boolA]; done)
end Go.VI

set_option linter.unusedVariables false
set_option linter.unusedSimpArgs false
namespace Go.VI
/-- Is a page in a run, in one of some? -/
def pinR (x : RunM) (p : Int) : Bool := decide (x.1 ≤ p) && decide (p < endM x)
def inR (l : List RunM) (p : Int) : Bool := l.any fun x => pinR x p
theorem pinR_t {x : RunM} {p : Int} : pinR x p = true ↔ x.1 ≤ p ∧ p < endM x := by simp [pinR]
theorem pinR_f {x : RunM} {p : Int} : pinR x p = false ↔ p < x.1 ∨ endM x ≤ p := by
  rw [← Bool.not_eq_true, pinR_t]
  omega
theorem inR_nil (p : Int) : inR [] p = false := rfl
theorem inR_cons (x : RunM) (l : List RunM) (p : Int) : inR (x :: l) p = (pinR x p || inR l p) := rfl
theorem inR_append (a b : List RunM) (p : Int) : inR (a ++ b) p = (inR a p || inR b p) := by simp [inR]
theorem inR_perm {a b : List RunM} (h : a.Perm b) (p : Int) : inR a p = inR b p := by
  unfold inR
  rw [Bool.eq_iff_iff, List.any_eq_true, List.any_eq_true]
  exact ⟨fun ⟨x, h1, h2⟩ => ⟨x, h.mem_iff.1 h1, h2⟩, fun ⟨x, h1, h2⟩ => ⟨x, h.mem_iff.2 h1, h2⟩⟩
theorem inR_f {l : List RunM} {p : Int} : inR l p = false ↔ ∀ x ∈ l, p < x.1 ∨ endM x ≤ p := by
  unfold inR
  rw [List.any_eq_false]
  exact ⟨fun h x hx => pinR_f.1 (by simpa using h x hx), fun h x hx => by simpa using pinR_f.2 (h x hx)⟩
theorem inR_t {l : List RunM} {p : Int} : inR l p = true ↔ ∃ x ∈ l, x.1 ≤ p ∧ p < endM x := by
  unfold inR
  rw [List.any_eq_true]
  exact ⟨fun ⟨x, h1, h2⟩ => ⟨x, h1, pinR_t.1 h2⟩, fun ⟨x, h1, h2⟩ => ⟨x, h1, pinR_t.2 h2⟩⟩
theorem rgt_cons {e : Int} {x : RunM} {l : List RunM} : rgtL e (x :: l) = true ↔ mayM x = true ∧ e < x.1 ∧ rgtL (endM x) l = true := by simp [rgtL]
theorem rgt_lt : ∀ {l : List RunM} {e : Int}, rgtL e l = true → ∀ x ∈ l, e < x.1
  | [], _, _, x, hx => by cases hx
  | y :: l, e, h, x, hx => by
    obtain ⟨h1, h2, h3⟩ := rgt_cons.1 h
    rcases List.mem_cons.1 hx with rfl | hx
    · exact h2
    · have := rgt_lt h3 x hx
      have := mayM_iff.1 h1
      unfold endM at *
      omega
/-- RIGHT RUNS ARE TOLD BY THEIR PAGES. -/
theorem rgt_ext : ∀ {a b : List RunM} {e e' : Int}, rgtL e a = true → rgtL e' b = true → (∀ p, inR a p = inR b p) → a = b
  | [], [], _, _, _, _, _ => rfl
  | [], y :: b, e, e', _, hb, h => by
    obtain ⟨h1, h2, h3⟩ := rgt_cons.1 hb
    have h1 := mayM_iff.1 h1
    have := h y.1
    rw [inR_nil, eq_comm, inR_f] at this
    have := this y (by simp)
    unfold endM at this
    omega
  | x :: a, [], e, e', ha, _, h => by
    obtain ⟨h1, h2, h3⟩ := rgt_cons.1 ha
    have h1 := mayM_iff.1 h1
    have := h x.1
    rw [inR_nil, inR_f] at this
    have := this x (by simp)
    unfold endM at this
    omega
  | x :: a, y :: b, e, e', ha, hb, h => by
    obtain ⟨a1, a2, a3⟩ := rgt_cons.1 ha
    obtain ⟨b1, b2, b3⟩ := rgt_cons.1 hb
    have mx := mayM_iff.1 a1
    have my := mayM_iff.1 b1
    have ex : endM x = x.1 + x.2 := rfl
    have ey : endM y = y.1 + y.2 := rfl
    have la := rgt_lt a3
    have lb := rgt_lt b3
    have k1 : y.1 ≤ x.1 := by
      have h1 : inR (y :: b) x.1 = true := by
        rw [← h, inR_t]
        exact ⟨x, by simp, by omega, by omega⟩
      obtain ⟨z, hz, q1, q2⟩ := inR_t.1 h1
      rcases List.mem_cons.1 hz with rfl | hz
      · exact q1
      · have := lb z hz
        omega
    have k2 : x.1 ≤ y.1 := by
      have h1 : inR (x :: a) y.1 = true := by
        rw [h, inR_t]
        exact ⟨y, by simp, by omega, by omega⟩
      obtain ⟨z, hz, q1, q2⟩ := inR_t.1 h1
      rcases List.mem_cons.1 hz with rfl | hz
      · exact q1
      · have := la z hz
        omega
    have k3 : endM y ≤ endM x := by
      rcases Int.lt_or_le (endM x) (endM y) with hlt | hle
      · have h1 : inR (x :: a) (endM x) = true := by
          rw [h, inR_t]
          exact ⟨y, by simp, by omega, by omega⟩
        obtain ⟨z, hz, q1, q2⟩ := inR_t.1 h1
        rcases List.mem_cons.1 hz with rfl | hz
        · omega
        · have := la z hz
          omega
      · exact hle
    have k4 : endM x ≤ endM y := by
      rcases Int.lt_or_le (endM y) (endM x) with hlt | hle
      · have h1 : inR (y :: b) (endM y) = true := by
          rw [← h, inR_t]
          exact ⟨x, by simp, by omega, by omega⟩
        obtain ⟨z, hz, q1, q2⟩ := inR_t.1 h1
        rcases List.mem_cons.1 hz with rfl | hz
        · omega
        · have := lb z hz
          omega
      · exact hle
    have exy : x = y := Prod.ext (by omega) (by omega)
    subst exy
    congr 1
    refine rgt_ext a3 b3 fun p => ?_
    have hp := h p
    rw [inR_cons, inR_cons] at hp
    cases e1 : pinR x p with
    | false => rw [e1] at hp; simpa using hp
    | true =>
      have := pinR_t.1 e1
      have q1 : inR a p = false := inR_f.2 fun z hz => by have := la z hz; omega
      have q2 : inR b p = false := inR_f.2 fun z hz => by have := lb z hz; omega
      rw [q1, q2]
theorem right_ext {a b : List RunM} (ha : rightM a = true) (hb : rightM b = true) (h : ∀ p, inR a p = inR b p) : a = b := rgt_ext ha hb h
/-- One more run at the end. -/
theorem rgt_snoc : ∀ {l : List RunM} {e : Int} {x : RunM}, rgtL e (l ++ [x]) = true ↔ rgtL e l = true ∧ mayM x = true ∧ e < x.1 ∧ ∀ y ∈ l, endM y < x.1
  | [], e, x => by simp [rgt_cons, rgtL]
  | z :: l, e, x => by
    rw [List.cons_append, rgt_cons, rgt_snoc, rgt_cons]
    constructor
    · rintro ⟨h1, h2, h3, h4, h5, h6⟩
      have := mayM_iff.1 h1
      refine ⟨⟨h1, h2, h3⟩, h4, ?_, fun y hy => ?_⟩
      · unfold endM at h5
        omega
      · rcases List.mem_cons.1 hy with rfl | hy
        · exact h5
        · exact h6 y hy
    · rintro ⟨⟨h1, h2, h3⟩, h4, h5, h6⟩
      exact ⟨h1, h2, h3, h4, h6 z (by simp), fun y hy => h6 y (by simp [hy])⟩
theorem right_end {l : List RunM} (h : rightM l = true) : ∀ x ∈ l, 0 ≤ x.1 ∧ endM x ≤ 32768 := fun x hx => by
  have := mayM_iff.1 (rgt_may h x hx)
  unfold endM
  omega
structure RunsI (s : List Bool) (i : Nat) : Prop where
  rg : rgtL (-1) (runsT s i) = true
  at_ : ∀ p : Nat, p < i → inR (runsT s i) p = s.getD p false
  le : ∀ x ∈ runsT s i, endM x ≤ i
  last : prevT s i = true → ∃ l x, runsT s i = l ++ [x] ∧ endM x = i
  lt : prevT s i = false → ∀ x ∈ runsT s i, endM x < i
theorem runsI (s : List Bool) : ∀ i, i ≤ 32768 → RunsI s i
  | 0, _ => ⟨rfl, fun p hp => by omega, by simp [runsT], by simp [prevT], by simp [runsT]⟩
  | i + 1, hi => by
    have ih := runsI s i (by omega)
    have hp : prevT s (i + 1) = s.getD i false := by simp [prevT]
    have hr : runsT s (i + 1) = runStep (prevT s i) (s.getD i false) i (runsT s i) := rfl
    have out : inR (runsT s i) (i : Int) = false := inR_f.2 fun x hx => .inr (ih.le x hx)
    cases e : s.getD i false with
    | false =>
      have hr' : runsT s (i + 1) = runsT s i := by rw [hr, e]; rfl
      refine ⟨by rw [hr']; exact ih.rg, fun p hp => ?_, fun x hx => ?_, fun h => ?_, fun _ x hx => ?_⟩
      · rw [hr']
        rcases Nat.lt_or_ge p i with h | h
        · exact ih.at_ p h
        · obtain rfl : p = i := by omega
          rw [out, e]
      · rw [hr'] at hx
        have := ih.le x hx
        omega
      · rw [hp, e] at h; cases h
      · rw [hr'] at hx
        have := ih.le x hx
        omega
    | true =>
      cases ep : prevT s i with
      | false =>
        have hr' : runsT s (i + 1) = runsT s i ++ [((i : Int), 1)] := by rw [hr, e, ep]; rfl
        have hl := ih.lt ep
        have e1 : endM ((i : Int), 1) = (i : Int) + 1 := rfl
        refine ⟨?_, fun p hp => ?_, fun x hx => ?_, fun _ => ⟨_, _, hr', by rw [e1]; omega⟩, fun h => by rw [hp, e] at h; cases h⟩
        · rw [hr', rgt_snoc]
          refine ⟨ih.rg, mayM_iff.2 ⟨by simp, by simp, by simp; omega, by simp; omega⟩, by simp; omega, fun y hy => hl y hy⟩
        · rw [hr', inR_append, inR_cons, inR_nil, Bool.or_false]
          rcases Nat.lt_or_ge p i with h | h
          · rw [ih.at_ p h, pinR_f.2 (.inl (by simp; omega)), Bool.or_false]
          · obtain rfl : p = i := by omega
            rw [out, e, Bool.false_or, pinR_t, e1]
            simp
            omega
        · rw [hr'] at hx
          rcases List.mem_append.1 hx with hx | hx
          · have := ih.le x hx
            omega
          · simp at hx
            rw [hx, e1]
            omega
      | true =>
        obtain ⟨l, x, hlx, hex⟩ := ih.last ep
        have hr' : runsT s (i + 1) = l ++ [(x.1, x.2 + 1)] := by rw [hr, e, ep, hlx]; exact incL_snoc l x
        have hrg := ih.rg
        rw [hlx, rgt_snoc] at hrg
        obtain ⟨r1, r2, r3, r4⟩ := hrg
        have mx := mayM_iff.1 r2
        have e0 : endM x = x.1 + x.2 := rfl
        have e1 : endM (x.1, x.2 + 1) = x.1 + (x.2 + 1) := rfl
        refine ⟨?_, fun p hp => ?_, fun z hz => ?_, fun _ => ⟨_, _, hr', by rw [e1]; omega⟩, fun h => by rw [hp, e] at h; cases h⟩
        · rw [hr', rgt_snoc]
          exact ⟨r1, mayM_iff.2 ⟨by simp; omega, by simp; omega, by simp; omega, by simp; omega⟩, by simpa using r3, fun y hy => by simpa using r4 y hy⟩
        · have hat := ih.at_ p
          rw [hr', inR_append, inR_cons, inR_nil, Bool.or_false]
          rcases Nat.lt_or_ge p i with h | h
          · rw [← ih.at_ p h, hlx, inR_append, inR_cons, inR_nil, Bool.or_false]
            congr 1
            unfold pinR
            rw [e1]
            congr 1
            rw [decide_eq_decide]
            omega
          · obtain rfl : p = i := by omega
            rw [e, pinR_t.2 ⟨by simp; omega, by rw [e1]; omega⟩, Bool.or_true]
        · rw [hr'] at hz
          rcases List.mem_append.1 hz with hz | hz
          · have := ih.le z (by rw [hlx]; simp [hz])
            omega
          · simp at hz
            rw [hz, e1]
            omega
theorem runsM_right {s : List Bool} (hs : s.length ≤ 32768) : rightM (runsM s) = true := (runsI s _ hs).rg
theorem runsM_in {s : List Bool} (hs : s.length ≤ 32768) (p : Int) : inR (runsM s) p = (decide (0 ≤ p) && s.getD p.toNat false) := by
  have hI := runsI s _ hs
  have hr := right_end (runsM_right hs)
  rcases Int.lt_or_le p 0 with h | h
  · rw [decide_eq_false (by omega), Bool.false_and, inR_f]
    exact fun x hx => .inl (by have := hr x hx; omega)
  · rw [decide_eq_true h, Bool.true_and]
    rcases Nat.lt_or_ge p.toNat s.length with h1 | h1
    · rw [← hI.at_ _ h1]
      unfold runsM
      congr 1
      omega
    · have : s.getD p.toNat false = false := by rw [List.getD_eq_getElem?_getD, List.getElem?_eq_none h1]; rfl
      rw [this, inR_f]
      exact fun x hx => .inr (by have := hI.le x hx; omega)
/-- THE RUNS OF A ROW ARE THE RIGHT ONES THAT HAVE ITS PAGES. -/
theorem runsM_eq {s : List Bool} (hs : s.length ≤ 32768) {a : List RunM} (ha : rightM a = true) (h : ∀ p : Int, inR a p = (decide (0 ≤ p) && s.getD p.toNat false)) : runsM s = a :=
  right_ext (runsM_right hs) ha fun p => by rw [runsM_in hs, h]
end Go.VI
