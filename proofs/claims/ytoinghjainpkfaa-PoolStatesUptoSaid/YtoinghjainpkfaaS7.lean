import Derived.Test.YtoinghjainpkfaaS6
import Derived.Test.YtoinghjainpkfaaRows
import Derived.Shelf.SlMaps.Clone
import Derived.Test.YtoinghjainpkfaaChecked
import Derived.KernelRfl
/- What the claim hangs on, part 7: UQ RG6 RSN RF5 UL UM UN UR UT RF517. -/
set_option linter.unusedVariables false
set_option linter.unusedSimpArgs false
set_option maxRecDepth 100000
namespace Go.VI
attribute [local congr] AW_congr OW_congr DW_congr NW_congr VW_congr GW_congr PW_congr KW_congr ite_congr' GV_congr CV_congr KF_congr
structure OpM where
  kind : Int
  txid : Int
  n : Int
  at' : Int
  len : Int
def pOpC (o : OpM) : List AV := [int o.kind, int o.txid, int o.n, int o.at', int o.len]
def encO (l : List OpM) : AV := .lst (l.map pOpC)
theorem atO {H : Heap} {l : List OpM} {i : Nat} (h : i < l.length) : iaddrA H none 5 (encO l) (i : Int) = some (.pim (l.map pOpC) i 0) := by
  have hl : i < (l.map pOpC).length := by simpa using h
  simp only [iaddrA, encO]
  rw [if_pos (by omega), Int.toNat_natCast, List.getElem?_eq_getElem hl]
  simp [pOpC]
theorem cO {H : Heap} {l : List OpM} {i : Nat} (h : i < l.length) : cellsAt H (.pim (l.map pOpC) i 0) 5 = some (pOpC l[i]) := by
  have hl : i < (l.map pOpC).length := by simpa using h
  simp [cellsAt, h, pOpC]
def opBad (o : OpM) : Bool := (!(o.kind == 2) && decide (60 < o.n) && decide (o.n ≤ 16384)) || (o.kind == 2 && decide (o.txid < 0))
def few11 (f h : List RunM) (pages : Int) (l : List OpM) : Bool := l.all (fun o => !opBad o) && (f ++ h).all fewR && decide (l.length ≤ 60) && decide (pages ≤ 600)
theorem l55a (l : List OpM) (hl : l.length ≤ 100000000000000) (C : Blk) {Q : AExit → Env → Heap → Prop} (x1 : AV)
   (hex : ∀ f' K, l.all (fun o => !opBad o) = true → K.get 0 = some C → f' 1 = x1 → f' 3 = .ptr 0 0 0 → f' 7 = int l.length → Q (.exit 0) (mkE 73 f') (hx K []))
   (hret : ∀ f' K, l.all (fun o => !opBad o) = false → f' 6 = boolA false → Q .ret (mkE 73 f') (hx K [])) :
   ∀ (d i : Nat) (K : Heap) (f : Nat → AV), i + d = l.length → l.all (fun o => !opBad o) = (l.drop i).all (fun o => !opBad o) → K.get 0 = some C → f 1 = x1 → f 3 = .ptr 0 0 0 → f 7 = int i → f 12 = encO l → f 13 = int l.length → f 14 = int i →
    AW ftB (.loop c55L0) (mkE 73 f) (hx K []) Q := by
  intro d
  induction d with
  | zero =>
    intro i K f hd hc h0 h1 h3 h7 h12 h13 h14
    have g1 : ((i : Int) < l.length) = False := by simp; omega
    rw [AW_loop]
    unfold c55L0
    rw [List.drop_eq_nil_of_le (by omega)] at hc
    simp only [↓vp, vq0, vq1, vq2, vq3, vr0, vr1, vr2, vr3, vr4, vr5, vr6, vr7, vr8, vr9, vr10, vr11, vr12, vr13, vr14, vr15, vr16, vr17, vr18, vr19, vr20, vr21, vr22, vr23, vr24, vr25, vr26, vr27, vr28, vr29, vr30, vr31, vr32, vr33, vr34, opS, fpS, extO, okP, pack, nAl, allocA, shId, leaves, fillA, fillR, splice, Nat.reduceLT, Nat.reduceEqDiff, Nat.reduceLeDiff, Nat.reduceAdd, Nat.reduceSub, Nat.reduceMul, Int.reduceBEq, Int.reduceBNe, Int.reduceLT, Int.reduceLE, Int.reduceEq, reduceIte, reduceCtorEq, da, int, boolA, h13, h14, g1]
    refine hex _ K (by rw [hc]; rfl) h0 ?_ ?_ ?_
    · simp only [↓vp, vq0, vq1, vq2, vq3, vr0, vr1, vr2, vr3, vr4, vr5, vr6, vr7, vr8, vr9, vr10, vr11, vr12, vr13, vr14, vr15, vr16, vr17, vr18, vr19, vr20, vr21, vr22, vr23, vr24, vr25, vr26, vr27, vr28, vr29, vr30, vr31, vr32, vr33, vr34, opS, fpS, extO, okP, pack, nAl, allocA, shId, leaves, fillA, fillR, splice, Nat.reduceLT, Nat.reduceEqDiff, Nat.reduceLeDiff, Nat.reduceAdd, Nat.reduceSub, Nat.reduceMul, Int.reduceBEq, Int.reduceBNe, Int.reduceLT, Int.reduceLE, Int.reduceEq, reduceIte, reduceCtorEq, da, int, boolA, h1]
    · simp only [↓vp, vq0, vq1, vq2, vq3, vr0, vr1, vr2, vr3, vr4, vr5, vr6, vr7, vr8, vr9, vr10, vr11, vr12, vr13, vr14, vr15, vr16, vr17, vr18, vr19, vr20, vr21, vr22, vr23, vr24, vr25, vr26, vr27, vr28, vr29, vr30, vr31, vr32, vr33, vr34, opS, fpS, extO, okP, pack, nAl, allocA, shId, leaves, fillA, fillR, splice, Nat.reduceLT, Nat.reduceEqDiff, Nat.reduceLeDiff, Nat.reduceAdd, Nat.reduceSub, Nat.reduceMul, Int.reduceBEq, Int.reduceBNe, Int.reduceLT, Int.reduceLE, Int.reduceEq, reduceIte, reduceCtorEq, da, int, boolA, h3]
    · simp only [↓vp, vq0, vq1, vq2, vq3, vr0, vr1, vr2, vr3, vr4, vr5, vr6, vr7, vr8, vr9, vr10, vr11, vr12, vr13, vr14, vr15, vr16, vr17, vr18, vr19, vr20, vr21, vr22, vr23, vr24, vr25, vr26, vr27, vr28, vr29, vr30, vr31, vr32, vr33, vr34, opS, fpS, extO, okP, pack, nAl, allocA, shId, leaves, fillA, fillR, splice, Nat.reduceLT, Nat.reduceEqDiff, Nat.reduceLeDiff, Nat.reduceAdd, Nat.reduceSub, Nat.reduceMul, Int.reduceBEq, Int.reduceBNe, Int.reduceLT, Int.reduceLE, Int.reduceEq, reduceIte, reduceCtorEq, da, int, boolA, h7]
      rw [show i = l.length by omega]
  | succ d ih =>
    intro i K f hd hc h0 h1 h3 h7 h12 h13 h14
    have g1 : ((i : Int) < l.length) = True := by simp; omega
    have gi : i < l.length := by omega
    have w1 := wrap_succ (show i < 9223372036854775807 by omega)
    have lk := Heap.get_lt h0
    have a0 := fun H => @atO H l i gi
    have b0 := fun H => @cO H l i gi
    simp only [pOpC, int] at b0
    rw [List.drop_eq_getElem_cons gi, List.all_cons] at hc
    have go : opBad l[i] = false → AW ftB (.loop c55L0) (mkE 73 f) (hx K []) Q := fun hb => by
      rw [hb, Bool.not_false, Bool.true_and] at hc
      rw [AW_loop]
      unfold c55L0
      cases k1 : (l[i].kind == 2) with
      | true =>
        have t1 : ¬ l[i].txid < 0 := fun q => by unfold opBad at hb; rw [k1, decide_eq_true q] at hb; simp at hb
        have e1 : (l[i].txid < 0) = False := eq_false t1
        have k2 : (l[i].kind != 2) = false := by unfold bne; rw [k1]; rfl
        simp only [↓vp, vq0, vq1, vq2, vq3, vr0, vr1, vr2, vr3, vr4, vr5, vr6, vr7, vr8, vr9, vr10, vr11, vr12, vr13, vr14, vr15, vr16, vr17, vr18, vr19, vr20, vr21, vr22, vr23, vr24, vr25, vr26, vr27, vr28, vr29, vr30, vr31, vr32, vr33, vr34, opS, fpS, extO, okP, pack, nAl, allocA, shId, leaves, fillA, fillR, splice, Nat.reduceLT, Nat.reduceEqDiff, Nat.reduceLeDiff, Nat.reduceAdd, Nat.reduceSub, Nat.reduceMul, Int.reduceBEq, Int.reduceBNe, Int.reduceLT, Int.reduceLE, Int.reduceEq, reduceIte, reduceCtorEq, da, int, boolA, dr, h1, h3, h7, h12, h13, h14, g1, a0, b0, k1, k2, e1, w1]
        rw [← hx_nil (hx K _)]
        refine ih (i + 1) _ _ (by omega) hc (get_old h0 _) ?_ ?_ ?_ ?_ ?_ ?_ <;> simp only [↓vp, vq0, vq1, vq2, vq3, vr0, vr1, vr2, vr3, vr4, vr5, vr6, vr7, vr8, vr9, vr10, vr11, vr12, vr13, vr14, vr15, vr16, vr17, vr18, vr19, vr20, vr21, vr22, vr23, vr24, vr25, vr26, vr27, vr28, vr29, vr30, vr31, vr32, vr33, vr34, opS, fpS, extO, okP, pack, nAl, allocA, shId, leaves, fillA, fillR, splice, Nat.reduceLT, Nat.reduceEqDiff, Nat.reduceLeDiff, Nat.reduceAdd, Nat.reduceSub, Nat.reduceMul, Int.reduceBEq, Int.reduceBNe, Int.reduceLT, Int.reduceLE, Int.reduceEq, reduceIte, reduceCtorEq, da, int, boolA, h1, h3, h12, h13]
      | false =>
        have k2 : (l[i].kind != 2) = true := by unfold bne; rw [k1]; rfl
        by_cases n1 : l[i].n > 60
        · have n2 : ¬ l[i].n ≤ 16384 := fun q => by unfold opBad at hb; rw [k1, decide_eq_true q, decide_eq_true (show 60 < l[i].n from n1)] at hb; simp at hb
          have e1 : (l[i].n > 60) = True := eq_true n1
          have e2 : (60 < l[i].n) = True := eq_true n1
          have e3 : (l[i].n ≤ 16384) = False := eq_false n2
          simp only [↓vp, vq0, vq1, vq2, vq3, vr0, vr1, vr2, vr3, vr4, vr5, vr6, vr7, vr8, vr9, vr10, vr11, vr12, vr13, vr14, vr15, vr16, vr17, vr18, vr19, vr20, vr21, vr22, vr23, vr24, vr25, vr26, vr27, vr28, vr29, vr30, vr31, vr32, vr33, vr34, opS, fpS, extO, okP, pack, nAl, allocA, shId, leaves, fillA, fillR, splice, Nat.reduceLT, Nat.reduceEqDiff, Nat.reduceLeDiff, Nat.reduceAdd, Nat.reduceSub, Nat.reduceMul, Int.reduceBEq, Int.reduceBNe, Int.reduceLT, Int.reduceLE, Int.reduceEq, reduceIte, reduceCtorEq, da, int, boolA, dr, h1, h3, h7, h12, h13, h14, g1, a0, b0, k1, k2, e1, e2, e3, w1]
          rw [← hx_nil (hx K _)]
          refine ih (i + 1) _ _ (by omega) hc (get_old h0 _) ?_ ?_ ?_ ?_ ?_ ?_ <;> simp only [↓vp, vq0, vq1, vq2, vq3, vr0, vr1, vr2, vr3, vr4, vr5, vr6, vr7, vr8, vr9, vr10, vr11, vr12, vr13, vr14, vr15, vr16, vr17, vr18, vr19, vr20, vr21, vr22, vr23, vr24, vr25, vr26, vr27, vr28, vr29, vr30, vr31, vr32, vr33, vr34, opS, fpS, extO, okP, pack, nAl, allocA, shId, leaves, fillA, fillR, splice, Nat.reduceLT, Nat.reduceEqDiff, Nat.reduceLeDiff, Nat.reduceAdd, Nat.reduceSub, Nat.reduceMul, Int.reduceBEq, Int.reduceBNe, Int.reduceLT, Int.reduceLE, Int.reduceEq, reduceIte, reduceCtorEq, da, int, boolA, h1, h3, h12, h13]
        · have e1 : (l[i].n > 60) = False := eq_false n1
          have e2 : (60 < l[i].n) = False := eq_false n1
          simp only [↓vp, vq0, vq1, vq2, vq3, vr0, vr1, vr2, vr3, vr4, vr5, vr6, vr7, vr8, vr9, vr10, vr11, vr12, vr13, vr14, vr15, vr16, vr17, vr18, vr19, vr20, vr21, vr22, vr23, vr24, vr25, vr26, vr27, vr28, vr29, vr30, vr31, vr32, vr33, vr34, opS, fpS, extO, okP, pack, nAl, allocA, shId, leaves, fillA, fillR, splice, Nat.reduceLT, Nat.reduceEqDiff, Nat.reduceLeDiff, Nat.reduceAdd, Nat.reduceSub, Nat.reduceMul, Int.reduceBEq, Int.reduceBNe, Int.reduceLT, Int.reduceLE, Int.reduceEq, reduceIte, reduceCtorEq, da, int, boolA, dr, h1, h3, h7, h12, h13, h14, g1, a0, b0, k1, k2, e1, e2, w1]
          rw [← hx_nil (hx K _)]
          refine ih (i + 1) _ _ (by omega) hc (get_old h0 _) ?_ ?_ ?_ ?_ ?_ ?_ <;> simp only [↓vp, vq0, vq1, vq2, vq3, vr0, vr1, vr2, vr3, vr4, vr5, vr6, vr7, vr8, vr9, vr10, vr11, vr12, vr13, vr14, vr15, vr16, vr17, vr18, vr19, vr20, vr21, vr22, vr23, vr24, vr25, vr26, vr27, vr28, vr29, vr30, vr31, vr32, vr33, vr34, opS, fpS, extO, okP, pack, nAl, allocA, shId, leaves, fillA, fillR, splice, Nat.reduceLT, Nat.reduceEqDiff, Nat.reduceLeDiff, Nat.reduceAdd, Nat.reduceSub, Nat.reduceMul, Int.reduceBEq, Int.reduceBNe, Int.reduceLT, Int.reduceLE, Int.reduceEq, reduceIte, reduceCtorEq, da, int, boolA, h1, h3, h12, h13]
    cases hb : opBad l[i] with
    | false => exact go hb
    | true =>
      rw [hb, Bool.not_true, Bool.false_and] at hc
      rw [AW_loop]
      unfold c55L0
      cases k1 : (l[i].kind == 2) with
      | true =>
        have t1 : l[i].txid < 0 := by unfold opBad at hb; rw [k1] at hb; simpa using hb
        have e1 : (l[i].txid < 0) = True := eq_true t1
        have k2 : (l[i].kind != 2) = false := by unfold bne; rw [k1]; rfl
        simp only [↓vp, vq0, vq1, vq2, vq3, vr0, vr1, vr2, vr3, vr4, vr5, vr6, vr7, vr8, vr9, vr10, vr11, vr12, vr13, vr14, vr15, vr16, vr17, vr18, vr19, vr20, vr21, vr22, vr23, vr24, vr25, vr26, vr27, vr28, vr29, vr30, vr31, vr32, vr33, vr34, opS, fpS, extO, okP, pack, nAl, allocA, shId, leaves, fillA, fillR, splice, Nat.reduceLT, Nat.reduceEqDiff, Nat.reduceLeDiff, Nat.reduceAdd, Nat.reduceSub, Nat.reduceMul, Int.reduceBEq, Int.reduceBNe, Int.reduceLT, Int.reduceLE, Int.reduceEq, reduceIte, reduceCtorEq, da, int, boolA, dr, h1, h3, h7, h12, h13, h14, g1, a0, b0, k1, k2, e1, w1]
        rw [← hx_nil (hx K _)]
        refine hret _ _ hc ?_
        simp only [↓vp, vq0, vq1, vq2, vq3, vr0, vr1, vr2, vr3, vr4, vr5, vr6, vr7, vr8, vr9, vr10, vr11, vr12, vr13, vr14, vr15, vr16, vr17, vr18, vr19, vr20, vr21, vr22, vr23, vr24, vr25, vr26, vr27, vr28, vr29, vr30, vr31, vr32, vr33, vr34, opS, fpS, extO, okP, pack, nAl, allocA, shId, leaves, fillA, fillR, splice, Nat.reduceLT, Nat.reduceEqDiff, Nat.reduceLeDiff, Nat.reduceAdd, Nat.reduceSub, Nat.reduceMul, Int.reduceBEq, Int.reduceBNe, Int.reduceLT, Int.reduceLE, Int.reduceEq, reduceIte, reduceCtorEq, da, int, boolA]
      | false =>
        have k2 : (l[i].kind != 2) = true := by unfold bne; rw [k1]; rfl
        have n1 : 60 < l[i].n ∧ l[i].n ≤ 16384 := by unfold opBad at hb; rw [k1] at hb; simpa using hb
        have e1 : (l[i].n > 60) = True := eq_true n1.1
        have e2 : (60 < l[i].n) = True := eq_true n1.1
        have e3 : (l[i].n ≤ 16384) = True := eq_true n1.2
        simp only [↓vp, vq0, vq1, vq2, vq3, vr0, vr1, vr2, vr3, vr4, vr5, vr6, vr7, vr8, vr9, vr10, vr11, vr12, vr13, vr14, vr15, vr16, vr17, vr18, vr19, vr20, vr21, vr22, vr23, vr24, vr25, vr26, vr27, vr28, vr29, vr30, vr31, vr32, vr33, vr34, opS, fpS, extO, okP, pack, nAl, allocA, shId, leaves, fillA, fillR, splice, Nat.reduceLT, Nat.reduceEqDiff, Nat.reduceLeDiff, Nat.reduceAdd, Nat.reduceSub, Nat.reduceMul, Int.reduceBEq, Int.reduceBNe, Int.reduceLT, Int.reduceLE, Int.reduceEq, reduceIte, reduceCtorEq, da, int, boolA, dr, h1, h3, h7, h12, h13, h14, g1, a0, b0, k1, k2, e1, e2, e3, w1]
        rw [← hx_nil (hx K _)]
        refine hret _ _ hc ?_
        simp only [↓vp, vq0, vq1, vq2, vq3, vr0, vr1, vr2, vr3, vr4, vr5, vr6, vr7, vr8, vr9, vr10, vr11, vr12, vr13, vr14, vr15, vr16, vr17, vr18, vr19, vr20, vr21, vr22, vr23, vr24, vr25, vr26, vr27, vr28, vr29, vr30, vr31, vr32, vr33, vr34, opS, fpS, extO, okP, pack, nAl, allocA, shId, leaves, fillA, fillR, splice, Nat.reduceLT, Nat.reduceEqDiff, Nat.reduceLeDiff, Nat.reduceAdd, Nat.reduceSub, Nat.reduceMul, Int.reduceBEq, Int.reduceBNe, Int.reduceLT, Int.reduceLE, Int.reduceEq, reduceIte, reduceCtorEq, da, int, boolA]
/-- A slice that is read. -/
def SrcR (K : Heap) (V : AV) (l : List RunM) : Prop := ∀ (i : Nat) (hi : i < l.length), ∃ P, (∀ L, iaddrA (hx K L) none 2 V (i : Int) = some P) ∧ ∀ L, cellsAt (hx K L) P 2 = some (runC l[i])
theorem SrcR.hx {K : Heap} {V : AV} {l : List RunM} (h : SrcR K V l) (M : List Blk) : SrcR (hx K M) V l := fun i hi => by
  obtain ⟨P, h1, h2⟩ := h i hi
  exact ⟨P, fun L => by rw [hx_hx]; exact h1 _, fun L => by rw [hx_hx]; exact h2 _⟩
theorem l55b (l : List RunM) (hl : l.length ≤ 4000000) (V : AV) (x1 x7 : AV) {Q : AExit → Env → Heap → Prop}
   (hex : ∀ f' K, l.all fewR = true → f' 1 = x1 → f' 7 = x7 → Q (.exit 2) (mkE 73 f') (hx K []))
   (hret : ∀ f' K, l.all fewR = false → f' 6 = boolA false → Q .ret (mkE 73 f') (hx K [])) :
   ∀ (d i : Nat) (K : Heap) (f : Nat → AV), i + d = l.length → l.all fewR = (l.drop i).all fewR → SrcR K V l → f 1 = x1 → f 7 = x7 → f 50 = V → f 51 = int l.length → f 52 = int i →
    AW ftB (.loop c55L1) (mkE 73 f) (hx K []) Q := by
  intro d
  induction d with
  | zero =>
    intro i K f hd hc hV h1 h7 h50 h51 h52
    have g1 : ((i : Int) < l.length) = False := by simp; omega
    rw [AW_loop]
    unfold c55L1
    rw [List.drop_eq_nil_of_le (by omega)] at hc
    simp only [↓vp, vq0, vq1, vq2, vq3, vr0, vr1, vr2, vr3, vr4, vr5, vr6, vr7, vr8, vr9, vr10, vr11, vr12, vr13, vr14, vr15, vr16, vr17, vr18, vr19, vr20, vr21, vr22, vr23, vr24, vr25, vr26, vr27, vr28, vr29, vr30, vr31, vr32, vr33, vr34, opS, fpS, extO, okP, pack, nAl, allocA, shId, leaves, fillA, fillR, splice, Nat.reduceLT, Nat.reduceEqDiff, Nat.reduceLeDiff, Nat.reduceAdd, Nat.reduceSub, Nat.reduceMul, Int.reduceBEq, Int.reduceBNe, Int.reduceLT, Int.reduceLE, Int.reduceEq, reduceIte, reduceCtorEq, da, int, boolA, h51, h52, g1]
    refine hex _ K (by rw [hc]; rfl) ?_ ?_
    · simp only [↓vp, vq0, vq1, vq2, vq3, vr0, vr1, vr2, vr3, vr4, vr5, vr6, vr7, vr8, vr9, vr10, vr11, vr12, vr13, vr14, vr15, vr16, vr17, vr18, vr19, vr20, vr21, vr22, vr23, vr24, vr25, vr26, vr27, vr28, vr29, vr30, vr31, vr32, vr33, vr34, opS, fpS, extO, okP, pack, nAl, allocA, shId, leaves, fillA, fillR, splice, Nat.reduceLT, Nat.reduceEqDiff, Nat.reduceLeDiff, Nat.reduceAdd, Nat.reduceSub, Nat.reduceMul, Int.reduceBEq, Int.reduceBNe, Int.reduceLT, Int.reduceLE, Int.reduceEq, reduceIte, reduceCtorEq, da, int, boolA, h1]
    · simp only [↓vp, vq0, vq1, vq2, vq3, vr0, vr1, vr2, vr3, vr4, vr5, vr6, vr7, vr8, vr9, vr10, vr11, vr12, vr13, vr14, vr15, vr16, vr17, vr18, vr19, vr20, vr21, vr22, vr23, vr24, vr25, vr26, vr27, vr28, vr29, vr30, vr31, vr32, vr33, vr34, opS, fpS, extO, okP, pack, nAl, allocA, shId, leaves, fillA, fillR, splice, Nat.reduceLT, Nat.reduceEqDiff, Nat.reduceLeDiff, Nat.reduceAdd, Nat.reduceSub, Nat.reduceMul, Int.reduceBEq, Int.reduceBNe, Int.reduceLT, Int.reduceLE, Int.reduceEq, reduceIte, reduceCtorEq, da, int, boolA, h7]
  | succ d ih =>
    intro i K f hd hc hV h1 h7 h50 h51 h52
    have g1 : ((i : Int) < l.length) = True := by simp; omega
    have gi : i < l.length := by omega
    have w1 := wrap_succ (show i < 9223372036854775807 by omega)
    obtain ⟨P, a0, b0⟩ := hV i gi
    simp only [runC, int] at b0
    rw [List.drop_eq_getElem_cons gi, List.all_cons] at hc
    have km : ∀ K L Q, KW ftB (.fn (.func 49) [] []) [.agg (runC l[i])] (hx K L) Q ↔ Q (boolA (mayM l[i])) (hx K L) := fun K L Q => kB49
    simp only [runC, int] at km
    rw [AW_loop]
    unfold c55L1
    cases c1 : mayM l[i] with
    | false =>
      rw [c1] at km
      have e : fewR l[i] = true := by simp [fewR, c1]
      rw [e, Bool.true_and] at hc
      simp only [↓vp, vq0, vq1, vq2, vq3, vr0, vr1, vr2, vr3, vr4, vr5, vr6, vr7, vr8, vr9, vr10, vr11, vr12, vr13, vr14, vr15, vr16, vr17, vr18, vr19, vr20, vr21, vr22, vr23, vr24, vr25, vr26, vr27, vr28, vr29, vr30, vr31, vr32, vr33, vr34, opS, fpS, extO, okP, pack, nAl, allocA, shId, leaves, fillA, fillR, splice, Nat.reduceLT, Nat.reduceEqDiff, Nat.reduceLeDiff, Nat.reduceAdd, Nat.reduceSub, Nat.reduceMul, Int.reduceBEq, Int.reduceBNe, Int.reduceLT, Int.reduceLE, Int.reduceEq, reduceIte, reduceCtorEq, da, int, boolA, dr, h1, h7, h50, h51, h52, g1, a0, b0, km, w1]
      rw [← hx_nil (hx K _)]
      refine ih (i + 1) _ _ (by omega) hc (hV.hx _) ?_ ?_ ?_ ?_ ?_ <;> simp only [↓vp, vq0, vq1, vq2, vq3, vr0, vr1, vr2, vr3, vr4, vr5, vr6, vr7, vr8, vr9, vr10, vr11, vr12, vr13, vr14, vr15, vr16, vr17, vr18, vr19, vr20, vr21, vr22, vr23, vr24, vr25, vr26, vr27, vr28, vr29, vr30, vr31, vr32, vr33, vr34, opS, fpS, extO, okP, pack, nAl, allocA, shId, leaves, fillA, fillR, splice, Nat.reduceLT, Nat.reduceEqDiff, Nat.reduceLeDiff, Nat.reduceAdd, Nat.reduceSub, Nat.reduceMul, Int.reduceBEq, Int.reduceBNe, Int.reduceLT, Int.reduceLE, Int.reduceEq, reduceIte, reduceCtorEq, da, int, boolA, h1, h7, h50, h51]
    | true =>
      rw [c1] at km
      have w3 : IntKind.i64.wrap (l[i].1 + l[i].2) = endM l[i] := wrap_i64 (by have := mayM_iff.1 c1; omega)
      by_cases c2 : 600 < endM l[i]
      · have d2 : (endM l[i] > 600) = True := eq_true (by omega)
        have d3 : (600 < endM l[i]) = True := eq_true (by omega)
        have e : fewR l[i] = false := by simp [fewR, c1, c2]
        rw [e, Bool.false_and] at hc
        simp only [↓vp, vq0, vq1, vq2, vq3, vr0, vr1, vr2, vr3, vr4, vr5, vr6, vr7, vr8, vr9, vr10, vr11, vr12, vr13, vr14, vr15, vr16, vr17, vr18, vr19, vr20, vr21, vr22, vr23, vr24, vr25, vr26, vr27, vr28, vr29, vr30, vr31, vr32, vr33, vr34, opS, fpS, extO, okP, pack, nAl, allocA, shId, leaves, fillA, fillR, splice, Nat.reduceLT, Nat.reduceEqDiff, Nat.reduceLeDiff, Nat.reduceAdd, Nat.reduceSub, Nat.reduceMul, Int.reduceBEq, Int.reduceBNe, Int.reduceLT, Int.reduceLE, Int.reduceEq, reduceIte, reduceCtorEq, da, int, boolA, dr, h1, h7, h50, h51, h52, g1, a0, b0, km, w3, d2, d3]
        rw [← hx_nil (hx K _)]
        refine hret _ _ hc ?_
        simp only [↓vp, vq0, vq1, vq2, vq3, vr0, vr1, vr2, vr3, vr4, vr5, vr6, vr7, vr8, vr9, vr10, vr11, vr12, vr13, vr14, vr15, vr16, vr17, vr18, vr19, vr20, vr21, vr22, vr23, vr24, vr25, vr26, vr27, vr28, vr29, vr30, vr31, vr32, vr33, vr34, opS, fpS, extO, okP, pack, nAl, allocA, shId, leaves, fillA, fillR, splice, Nat.reduceLT, Nat.reduceEqDiff, Nat.reduceLeDiff, Nat.reduceAdd, Nat.reduceSub, Nat.reduceMul, Int.reduceBEq, Int.reduceBNe, Int.reduceLT, Int.reduceLE, Int.reduceEq, reduceIte, reduceCtorEq, da, int, boolA]
      · have d2 : (endM l[i] > 600) = False := eq_false (by omega)
        have d3 : (600 < endM l[i]) = False := eq_false (by omega)
        have e : fewR l[i] = true := by simp [fewR, c2]
        rw [e, Bool.true_and] at hc
        simp only [↓vp, vq0, vq1, vq2, vq3, vr0, vr1, vr2, vr3, vr4, vr5, vr6, vr7, vr8, vr9, vr10, vr11, vr12, vr13, vr14, vr15, vr16, vr17, vr18, vr19, vr20, vr21, vr22, vr23, vr24, vr25, vr26, vr27, vr28, vr29, vr30, vr31, vr32, vr33, vr34, opS, fpS, extO, okP, pack, nAl, allocA, shId, leaves, fillA, fillR, splice, Nat.reduceLT, Nat.reduceEqDiff, Nat.reduceLeDiff, Nat.reduceAdd, Nat.reduceSub, Nat.reduceMul, Int.reduceBEq, Int.reduceBNe, Int.reduceLT, Int.reduceLE, Int.reduceEq, reduceIte, reduceCtorEq, da, int, boolA, dr, h1, h7, h50, h51, h52, g1, a0, b0, km, w3, d2, d3, w1]
        rw [← hx_nil (hx K _)]
        refine ih (i + 1) _ _ (by omega) hc (hV.hx _) ?_ ?_ ?_ ?_ ?_ <;> simp only [↓vp, vq0, vq1, vq2, vq3, vr0, vr1, vr2, vr3, vr4, vr5, vr6, vr7, vr8, vr9, vr10, vr11, vr12, vr13, vr14, vr15, vr16, vr17, vr18, vr19, vr20, vr21, vr22, vr23, vr24, vr25, vr26, vr27, vr28, vr29, vr30, vr31, vr32, vr33, vr34, opS, fpS, extO, okP, pack, nAl, allocA, shId, leaves, fillA, fillR, splice, Nat.reduceLT, Nat.reduceEqDiff, Nat.reduceLeDiff, Nat.reduceAdd, Nat.reduceSub, Nat.reduceMul, Int.reduceBEq, Int.reduceBNe, Int.reduceLT, Int.reduceLE, Int.reduceEq, reduceIte, reduceCtorEq, da, int, boolA, h1, h7, h50, h51]
theorem src_sl {K : Heap} {id : Nat} {fz : Bool} {l : List RunM} (h : K.get id = some (.row fz 2 (l.map runC))) : SrcR K (.sl id 0 l.length) l := fun i hi => by
  have h' := fun L => get_old h L
  refine ⟨.ptr id i 0, fun L => ?_, fun L => ?_⟩
  · unfold iaddrA
    simp only
    rw [if_pos ⟨by omega, by omega, rowSz_of (h' L)⟩]
    simp
  · simp only [cellsAt, h' L, List.getElem?_map, List.getElem?_eq_getElem hi, Option.map_some]
    simp [runC]
theorem s55 (f h : List RunM) (pages : Int) (l : List OpM) (hf : f.length ≤ 2000000) (hh : h.length ≤ 2000000) (hl : l.length ≤ 100000000000000) {A : AV} (hA : A = encO l ∨ (A = .sc (.slice none 0 0) ∧ l = [])) (H : Heap) :
    callL ftB (.fn (.func 55) [] []) [.agg [encR f, encR h], int pages, A] H = some (boolA (few11 f h pages l), H) := by
  refine call_p (as' := [.agg [encR f, encR h], int pages, encO l]) rfl (by rcases hA with rfl | ⟨rfl, rfl⟩ <;> rfl) (by simp) ?_
  unfold c55 r55
  have ln : ∀ H, lenV H 0 (encO l) = some (int l.length, H) := fun H => by
    show some (AV.sc (.int .i64 ((l.map pOpC).length : Nat)), H) = _
    rw [List.length_map]
    rfl
  simp only [int] at ln
  simp only [↓vp, vq0, vq1, vq2, vq3, vr0, vr1, vr2, vr3, vr4, vr5, vr6, vr7, vr8, vr9, vr10, vr11, vr12, vr13, vr14, vr15, vr16, vr17, vr18, vr19, vr20, vr21, vr22, vr23, vr24, vr25, vr26, vr27, vr28, vr29, vr30, vr31, vr32, vr33, vr34, opS, fpS, extO, okP, pack, nAl, allocA, shId, leaves, fillA, fillR, splice, Nat.reduceLT, Nat.reduceEqDiff, Nat.reduceLeDiff, Nat.reduceAdd, Nat.reduceSub, Nat.reduceMul, Int.reduceBEq, Int.reduceBNe, Int.reduceLT, Int.reduceLE, Int.reduceEq, reduceIte, reduceCtorEq, da, int, boolA, dr, ln]
  rw [← hx_nil (hx Heap.empty _)]
  refine l55a l hl (.box false [encR f, encR h]) (int pages) (fun f1 K1 ho h0 e1 e3 e7 => ?_) (fun f' K hm q2 => ?_) l.length 0 _ _ (by simp) rfl rfl ?_ ?_ ?_ ?_ ?_ ?_
  · have lk := Heap.get_lt h0
    unfold c55R3
    have q0 : ∀ L, (hx K1 L).get 0 = some (.box false [.lst (f.map runC), .lst (h.map runC)]) := fun L => get_old h0 L
    have m0 : ∀ nid H, appA nid H 2 16 .emp [] = some (.emp, H) := fun _ _ => rfl
    have sp : sidP [] = some [] := rfl
    have xf : ∀ q, exFQ (none : FP).isSome q = q := fun q => by cases q <;> rfl
    have r0 : ∀ (l : List RunM) H, rowsOf H (encR l) = some (l.map runC) := fun _ _ => rfl
    have sz : ∀ l : List RunM, allSz 2 (l.map runC) = true := fun l => by
      induction l with
      | nil => rfl
      | cons x l ih => rw [List.map_cons, allSz_cons, ih]; rfl
    have a1 : ∀ nid H, f ≠ [] → appA nid H 2 16 .emp (f.map runC) = some (.sl nid 0 f.length, H.put nid (.row false 2 (f.map runC))) := fun nid H hne => by
      have : 0 < f.length := List.length_pos_iff.2 hne
      rw [appA_emp, List.length_map, if_neg (by omega), if_pos ⟨by omega, sz f⟩]
    have a2 : ∀ nid H, h ≠ [] → appA nid H 2 16 .emp (h.map runC) = some (.sl nid 0 h.length, H.put nid (.row false 2 (h.map runC))) := fun nid H hne => by
      have : 0 < h.length := List.length_pos_iff.2 hne
      rw [appA_emp, List.length_map, if_neg (by omega), if_pos ⟨by omega, sz h⟩]
    have le : ∀ H, lenV H 0 .emp = some (.sc (.int .i64 0), H) := fun _ => rfl
    have ls : ∀ H id n, lenV H 0 (.sl id 0 n) = some (.sc (.int .i64 (n : Nat)), H) := fun _ _ _ => rfl
    have p0 : (K1.next = 0) = False := eq_false (by omega)
    have p1 : (0 = K1.next) = False := eq_false (by omega)
    have rest : ∀ (K : Heap) (f' : Nat → AV) (V : AV), SrcR K V (f ++ h) → f' 1 = int pages → f' 7 = int l.length → f' 50 = V → f' 51 = int (f ++ h).length → f' 52 = int 0 →
        AW ftB (.loop c55L1) (mkE 73 f') (hx K []) (blockA 2 (thenA (fun e H => AW ftB c55R2 e H (RetP [.tmp 6] (.sc (.bool (few11 f h pages l))))) (RetP [.tmp 6] (.sc (.bool (few11 f h pages l)))))) := fun K f' V hV u1 u7 u50 u51 u52 => by
      refine l55b (f ++ h) (by rw [List.length_append]; omega) V (int pages) (int l.length) (fun f2 K2 hm z1 z7 => ?_) (fun f2 K2 hm z6 => ?_) (f ++ h).length 0 K f' (by simp) rfl hV u1 u7 u50 u51 u52
      · by_cases g1 : l.length ≤ 60
        · have d1 : ((l.length : Int) ≤ 60) = True := eq_true (by omega)
          by_cases g2 : pages ≤ 600
          · have e : few11 f h pages l = true := by unfold few11; rw [ho, hm, decide_eq_true g1, decide_eq_true g2]; rfl
            rw [e]
            unfold c55R2
            simp only [↓vp, vq0, vq1, vq2, vq3, vr0, vr1, vr2, vr3, vr4, vr5, vr6, vr7, vr8, vr9, vr10, vr11, vr12, vr13, vr14, vr15, vr16, vr17, vr18, vr19, vr20, vr21, vr22, vr23, vr24, vr25, vr26, vr27, vr28, vr29, vr30, vr31, vr32, vr33, vr34, opS, fpS, extO, okP, pack, nAl, allocA, shId, leaves, fillA, fillR, splice, Nat.reduceLT, Nat.reduceEqDiff, Nat.reduceLeDiff, Nat.reduceAdd, Nat.reduceSub, Nat.reduceMul, Int.reduceBEq, Int.reduceBNe, Int.reduceLT, Int.reduceLE, Int.reduceEq, reduceIte, reduceCtorEq, da, int, boolA, RetP_go, resT, resC, resN, retV1, retV2, retV3, retV0, frzFZ, takeM, Option.some.injEq, z1, z7, d1, eq_true g2]
          · have e : few11 f h pages l = false := by unfold few11; rw [ho, hm, decide_eq_true g1, decide_eq_false g2]; rfl
            rw [e]
            unfold c55R2
            simp only [↓vp, vq0, vq1, vq2, vq3, vr0, vr1, vr2, vr3, vr4, vr5, vr6, vr7, vr8, vr9, vr10, vr11, vr12, vr13, vr14, vr15, vr16, vr17, vr18, vr19, vr20, vr21, vr22, vr23, vr24, vr25, vr26, vr27, vr28, vr29, vr30, vr31, vr32, vr33, vr34, opS, fpS, extO, okP, pack, nAl, allocA, shId, leaves, fillA, fillR, splice, Nat.reduceLT, Nat.reduceEqDiff, Nat.reduceLeDiff, Nat.reduceAdd, Nat.reduceSub, Nat.reduceMul, Int.reduceBEq, Int.reduceBNe, Int.reduceLT, Int.reduceLE, Int.reduceEq, reduceIte, reduceCtorEq, da, int, boolA, RetP_go, resT, resC, resN, retV1, retV2, retV3, retV0, frzFZ, takeM, Option.some.injEq, z1, z7, d1, eq_false g2]
        · have d1 : ((l.length : Int) ≤ 60) = False := eq_false (by omega)
          have e : few11 f h pages l = false := by unfold few11; rw [ho, hm, decide_eq_false g1]; rfl
          rw [e]
          unfold c55R2
          simp only [↓vp, vq0, vq1, vq2, vq3, vr0, vr1, vr2, vr3, vr4, vr5, vr6, vr7, vr8, vr9, vr10, vr11, vr12, vr13, vr14, vr15, vr16, vr17, vr18, vr19, vr20, vr21, vr22, vr23, vr24, vr25, vr26, vr27, vr28, vr29, vr30, vr31, vr32, vr33, vr34, opS, fpS, extO, okP, pack, nAl, allocA, shId, leaves, fillA, fillR, splice, Nat.reduceLT, Nat.reduceEqDiff, Nat.reduceLeDiff, Nat.reduceAdd, Nat.reduceSub, Nat.reduceMul, Int.reduceBEq, Int.reduceBNe, Int.reduceLT, Int.reduceLE, Int.reduceEq, reduceIte, reduceCtorEq, da, int, boolA, RetP_go, resT, resC, resN, retV1, retV2, retV3, retV0, frzFZ, takeM, Option.some.injEq, z1, z7, d1]
      · have e : few11 f h pages l = false := by unfold few11; rw [ho, hm]; rfl
        rw [e]
        simp only [↓vp, vq0, vq1, vq2, vq3, vr0, vr1, vr2, vr3, vr4, vr5, vr6, vr7, vr8, vr9, vr10, vr11, vr12, vr13, vr14, vr15, vr16, vr17, vr18, vr19, vr20, vr21, vr22, vr23, vr24, vr25, vr26, vr27, vr28, vr29, vr30, vr31, vr32, vr33, vr34, opS, fpS, extO, okP, pack, nAl, allocA, shId, leaves, fillA, fillR, splice, Nat.reduceLT, Nat.reduceEqDiff, Nat.reduceLeDiff, Nat.reduceAdd, Nat.reduceSub, Nat.reduceMul, Int.reduceBEq, Int.reduceBNe, Int.reduceLT, Int.reduceLE, Int.reduceEq, reduceIte, reduceCtorEq, da, int, boolA, RetP_go, resT, resC, resN, retV1, retV2, retV3, retV0, frzFZ, takeM, Option.some.injEq, z6]
    have t1 : (f.length * 16 ≤ 140737488355328) = True := eq_true (by omega)
    have t2 : ((f.length + h.length) * 16 ≤ 140737488355328) = True := eq_true (by omega)
    have t3 : allSz 2 (h.map runC) = true := sz h
    have sp0 : splice (f.map runC) f.length [] = f.map runC := by simp [splice]
    have dp : (f.map runC).drop f.length = [] := List.drop_eq_nil_of_le (by simp)
    have tk : (f.map runC).take f.length = f.map runC := List.take_of_length_le (by simp)
    by_cases c1 : f = []
    · subst c1
      by_cases c2 : h = []
      · subst c2
        simp only [↓vp, vq0, vq1, vq2, vq3, vr0, vr1, vr2, vr3, vr4, vr5, vr6, vr7, vr8, vr9, vr10, vr11, vr12, vr13, vr14, vr15, vr16, vr17, vr18, vr19, vr20, vr21, vr22, vr23, vr24, vr25, vr26, vr27, vr28, vr29, vr30, vr31, vr32, vr33, vr34, opS, fpS, extO, okP, pack, nAl, allocA, shId, leaves, fillA, fillR, splice, Nat.reduceLT, Nat.reduceEqDiff, Nat.reduceLeDiff, Nat.reduceAdd, Nat.reduceSub, Nat.reduceMul, Int.reduceBEq, Int.reduceBNe, Int.reduceLT, Int.reduceLE, Int.reduceEq, reduceIte, reduceCtorEq, da, int, boolA, dr, e1, e3, e7, q0, r0, m0, sp, xf, exFQ, mkFQ_n, le, p0, p1]
        rw [← hx_nil (hx K1 _)]
        refine rest _ _ _ (fun i hi => absurd hi (by simp)) ?_ ?_ rfl ?_ ?_
        all_goals first | rfl | (simp only [↓vp, vq0, vq1, vq2, vq3, vr0, vr1, vr2, vr3, vr4, vr5, vr6, vr7, vr8, vr9, vr10, vr11, vr12, vr13, vr14, vr15, vr16, vr17, vr18, vr19, vr20, vr21, vr22, vr23, vr24, vr25, vr26, vr27, vr28, vr29, vr30, vr31, vr32, vr33, vr34, opS, fpS, extO, okP, pack, nAl, allocA, shId, leaves, fillA, fillR, splice, Nat.reduceLT, Nat.reduceEqDiff, Nat.reduceLeDiff, Nat.reduceAdd, Nat.reduceSub, Nat.reduceMul, Int.reduceBEq, Int.reduceBNe, Int.reduceLT, Int.reduceLE, Int.reduceEq, reduceIte, reduceCtorEq, da, int, boolA, e1, e7]; done) | (simp only [↓vp, vq0, vq1, vq2, vq3, vr0, vr1, vr2, vr3, vr4, vr5, vr6, vr7, vr8, vr9, vr10, vr11, vr12, vr13, vr14, vr15, vr16, vr17, vr18, vr19, vr20, vr21, vr22, vr23, vr24, vr25, vr26, vr27, vr28, vr29, vr30, vr31, vr32, vr33, vr34, opS, fpS, extO, okP, pack, nAl, allocA, shId, leaves, fillA, fillR, splice, Nat.reduceLT, Nat.reduceEqDiff, Nat.reduceLeDiff, Nat.reduceAdd, Nat.reduceSub, Nat.reduceMul, Int.reduceBEq, Int.reduceBNe, Int.reduceLT, Int.reduceLE, Int.reduceEq, reduceIte, reduceCtorEq, da, int, boolA, e1, e7, List.length_append, List.nil_append, List.append_nil]; done) | (simp only [↓vp, vq0, vq1, vq2, vq3, vr0, vr1, vr2, vr3, vr4, vr5, vr6, vr7, vr8, vr9, vr10, vr11, vr12, vr13, vr14, vr15, vr16, vr17, vr18, vr19, vr20, vr21, vr22, vr23, vr24, vr25, vr26, vr27, vr28, vr29, vr30, vr31, vr32, vr33, vr34, opS, fpS, extO, okP, pack, nAl, allocA, shId, leaves, fillA, fillR, splice, Nat.reduceLT, Nat.reduceEqDiff, Nat.reduceLeDiff, Nat.reduceAdd, Nat.reduceSub, Nat.reduceMul, Int.reduceBEq, Int.reduceBNe, Int.reduceLT, Int.reduceLE, Int.reduceEq, reduceIte, reduceCtorEq, da, int, boolA, e1, e7]; rfl)
      · have a2' := fun nid H => a2 nid H c2
        simp only [↓vp, vq0, vq1, vq2, vq3, vr0, vr1, vr2, vr3, vr4, vr5, vr6, vr7, vr8, vr9, vr10, vr11, vr12, vr13, vr14, vr15, vr16, vr17, vr18, vr19, vr20, vr21, vr22, vr23, vr24, vr25, vr26, vr27, vr28, vr29, vr30, vr31, vr32, vr33, vr34, opS, fpS, extO, okP, pack, nAl, allocA, shId, leaves, fillA, fillR, splice, Nat.reduceLT, Nat.reduceEqDiff, Nat.reduceLeDiff, Nat.reduceAdd, Nat.reduceSub, Nat.reduceMul, Int.reduceBEq, Int.reduceBNe, Int.reduceLT, Int.reduceLE, Int.reduceEq, reduceIte, reduceCtorEq, da, int, boolA, dr, e1, e3, e7, q0, r0, m0, sp, xf, exFQ, mkFQ_n, le, ls, p0, p1, a2']
        rw [← hx_nil (hx K1 _)]
        refine rest _ _ _ (src_sl (fz := false) (hx_get _ _ 2)) ?_ ?_ rfl ?_ ?_
        all_goals first | rfl | (simp only [↓vp, vq0, vq1, vq2, vq3, vr0, vr1, vr2, vr3, vr4, vr5, vr6, vr7, vr8, vr9, vr10, vr11, vr12, vr13, vr14, vr15, vr16, vr17, vr18, vr19, vr20, vr21, vr22, vr23, vr24, vr25, vr26, vr27, vr28, vr29, vr30, vr31, vr32, vr33, vr34, opS, fpS, extO, okP, pack, nAl, allocA, shId, leaves, fillA, fillR, splice, Nat.reduceLT, Nat.reduceEqDiff, Nat.reduceLeDiff, Nat.reduceAdd, Nat.reduceSub, Nat.reduceMul, Int.reduceBEq, Int.reduceBNe, Int.reduceLT, Int.reduceLE, Int.reduceEq, reduceIte, reduceCtorEq, da, int, boolA, e1, e7]; done) | (simp only [↓vp, vq0, vq1, vq2, vq3, vr0, vr1, vr2, vr3, vr4, vr5, vr6, vr7, vr8, vr9, vr10, vr11, vr12, vr13, vr14, vr15, vr16, vr17, vr18, vr19, vr20, vr21, vr22, vr23, vr24, vr25, vr26, vr27, vr28, vr29, vr30, vr31, vr32, vr33, vr34, opS, fpS, extO, okP, pack, nAl, allocA, shId, leaves, fillA, fillR, splice, Nat.reduceLT, Nat.reduceEqDiff, Nat.reduceLeDiff, Nat.reduceAdd, Nat.reduceSub, Nat.reduceMul, Int.reduceBEq, Int.reduceBNe, Int.reduceLT, Int.reduceLE, Int.reduceEq, reduceIte, reduceCtorEq, da, int, boolA, e1, e7, List.length_append, List.nil_append, List.append_nil]; done) | (simp only [↓vp, vq0, vq1, vq2, vq3, vr0, vr1, vr2, vr3, vr4, vr5, vr6, vr7, vr8, vr9, vr10, vr11, vr12, vr13, vr14, vr15, vr16, vr17, vr18, vr19, vr20, vr21, vr22, vr23, vr24, vr25, vr26, vr27, vr28, vr29, vr30, vr31, vr32, vr33, vr34, opS, fpS, extO, okP, pack, nAl, allocA, shId, leaves, fillA, fillR, splice, Nat.reduceLT, Nat.reduceEqDiff, Nat.reduceLeDiff, Nat.reduceAdd, Nat.reduceSub, Nat.reduceMul, Int.reduceBEq, Int.reduceBNe, Int.reduceLT, Int.reduceLE, Int.reduceEq, reduceIte, reduceCtorEq, da, int, boolA, e1, e7]; rfl)
    · have a1' := fun nid H => a1 nid H c1
      by_cases c2 : h = []
      · subst c2
        have nl := Nat.add_zero f.length
        simp only [↓vp, vq0, vq1, vq2, vq3, vr0, vr1, vr2, vr3, vr4, vr5, vr6, vr7, vr8, vr9, vr10, vr11, vr12, vr13, vr14, vr15, vr16, vr17, vr18, vr19, vr20, vr21, vr22, vr23, vr24, vr25, vr26, vr27, vr28, vr29, vr30, vr31, vr32, vr33, vr34, opS, fpS, extO, okP, pack, nAl, allocA, shId, leaves, fillA, fillR, splice, Nat.reduceLT, Nat.reduceEqDiff, Nat.reduceLeDiff, Nat.reduceAdd, Nat.reduceSub, Nat.reduceMul, Int.reduceBEq, Int.reduceBNe, Int.reduceLT, Int.reduceLE, Int.reduceEq, reduceIte, reduceCtorEq, da, int, boolA, dr, e1, e3, e7, q0, r0, m0, sp, xf, exFQ, mkFQ_n, le, ls, p0, p1, a1', t1, t2, t3, sp0, tk, dp, List.append_nil, nl]
        rw [← hx_nil (hx K1 _)]
        refine rest _ _ _ (by rw [List.append_nil]; exact src_sl (fz := false) (hx_get _ _ 1)) ?_ ?_ rfl ?_ ?_
        all_goals first | rfl | (simp only [↓vp, vq0, vq1, vq2, vq3, vr0, vr1, vr2, vr3, vr4, vr5, vr6, vr7, vr8, vr9, vr10, vr11, vr12, vr13, vr14, vr15, vr16, vr17, vr18, vr19, vr20, vr21, vr22, vr23, vr24, vr25, vr26, vr27, vr28, vr29, vr30, vr31, vr32, vr33, vr34, opS, fpS, extO, okP, pack, nAl, allocA, shId, leaves, fillA, fillR, splice, Nat.reduceLT, Nat.reduceEqDiff, Nat.reduceLeDiff, Nat.reduceAdd, Nat.reduceSub, Nat.reduceMul, Int.reduceBEq, Int.reduceBNe, Int.reduceLT, Int.reduceLE, Int.reduceEq, reduceIte, reduceCtorEq, da, int, boolA, e1, e7]; done) | (simp only [↓vp, vq0, vq1, vq2, vq3, vr0, vr1, vr2, vr3, vr4, vr5, vr6, vr7, vr8, vr9, vr10, vr11, vr12, vr13, vr14, vr15, vr16, vr17, vr18, vr19, vr20, vr21, vr22, vr23, vr24, vr25, vr26, vr27, vr28, vr29, vr30, vr31, vr32, vr33, vr34, opS, fpS, extO, okP, pack, nAl, allocA, shId, leaves, fillA, fillR, splice, Nat.reduceLT, Nat.reduceEqDiff, Nat.reduceLeDiff, Nat.reduceAdd, Nat.reduceSub, Nat.reduceMul, Int.reduceBEq, Int.reduceBNe, Int.reduceLT, Int.reduceLE, Int.reduceEq, reduceIte, reduceCtorEq, da, int, boolA, e1, e7, List.length_append, List.nil_append, List.append_nil]; done) | (simp only [↓vp, vq0, vq1, vq2, vq3, vr0, vr1, vr2, vr3, vr4, vr5, vr6, vr7, vr8, vr9, vr10, vr11, vr12, vr13, vr14, vr15, vr16, vr17, vr18, vr19, vr20, vr21, vr22, vr23, vr24, vr25, vr26, vr27, vr28, vr29, vr30, vr31, vr32, vr33, vr34, opS, fpS, extO, okP, pack, nAl, allocA, shId, leaves, fillA, fillR, splice, Nat.reduceLT, Nat.reduceEqDiff, Nat.reduceLeDiff, Nat.reduceAdd, Nat.reduceSub, Nat.reduceMul, Int.reduceBEq, Int.reduceBNe, Int.reduceLT, Int.reduceLE, Int.reduceEq, reduceIte, reduceCtorEq, da, int, boolA, e1, e7]; rfl)
      · have nl : (f.length + h.length ≤ f.length) = False := eq_false (by have : 0 < h.length := List.length_pos_iff.2 c2; omega)
        simp only [↓vp, vq0, vq1, vq2, vq3, vr0, vr1, vr2, vr3, vr4, vr5, vr6, vr7, vr8, vr9, vr10, vr11, vr12, vr13, vr14, vr15, vr16, vr17, vr18, vr19, vr20, vr21, vr22, vr23, vr24, vr25, vr26, vr27, vr28, vr29, vr30, vr31, vr32, vr33, vr34, opS, fpS, extO, okP, pack, nAl, allocA, shId, leaves, fillA, fillR, splice, Nat.reduceLT, Nat.reduceEqDiff, Nat.reduceLeDiff, Nat.reduceAdd, Nat.reduceSub, Nat.reduceMul, Int.reduceBEq, Int.reduceBNe, Int.reduceLT, Int.reduceLE, Int.reduceEq, reduceIte, reduceCtorEq, da, int, boolA, dr, e1, e3, e7, q0, r0, m0, sp, xf, exFQ, mkFQ_n, le, ls, p0, p1, a1', t1, t2, t3, sp0, tk, nl]
        rw [← hx_nil (hx K1 _)]
        refine rest _ _ _ (by rw [← List.length_append, ← List.map_append]; exact src_sl (fz := false) (hx_get _ _ 2)) ?_ ?_ rfl ?_ ?_
        all_goals first | rfl | (simp only [↓vp, vq0, vq1, vq2, vq3, vr0, vr1, vr2, vr3, vr4, vr5, vr6, vr7, vr8, vr9, vr10, vr11, vr12, vr13, vr14, vr15, vr16, vr17, vr18, vr19, vr20, vr21, vr22, vr23, vr24, vr25, vr26, vr27, vr28, vr29, vr30, vr31, vr32, vr33, vr34, opS, fpS, extO, okP, pack, nAl, allocA, shId, leaves, fillA, fillR, splice, Nat.reduceLT, Nat.reduceEqDiff, Nat.reduceLeDiff, Nat.reduceAdd, Nat.reduceSub, Nat.reduceMul, Int.reduceBEq, Int.reduceBNe, Int.reduceLT, Int.reduceLE, Int.reduceEq, reduceIte, reduceCtorEq, da, int, boolA, e1, e7]; done) | (simp only [↓vp, vq0, vq1, vq2, vq3, vr0, vr1, vr2, vr3, vr4, vr5, vr6, vr7, vr8, vr9, vr10, vr11, vr12, vr13, vr14, vr15, vr16, vr17, vr18, vr19, vr20, vr21, vr22, vr23, vr24, vr25, vr26, vr27, vr28, vr29, vr30, vr31, vr32, vr33, vr34, opS, fpS, extO, okP, pack, nAl, allocA, shId, leaves, fillA, fillR, splice, Nat.reduceLT, Nat.reduceEqDiff, Nat.reduceLeDiff, Nat.reduceAdd, Nat.reduceSub, Nat.reduceMul, Int.reduceBEq, Int.reduceBNe, Int.reduceLT, Int.reduceLE, Int.reduceEq, reduceIte, reduceCtorEq, da, int, boolA, e1, e7, List.length_append, List.nil_append, List.append_nil]; done) | (simp only [↓vp, vq0, vq1, vq2, vq3, vr0, vr1, vr2, vr3, vr4, vr5, vr6, vr7, vr8, vr9, vr10, vr11, vr12, vr13, vr14, vr15, vr16, vr17, vr18, vr19, vr20, vr21, vr22, vr23, vr24, vr25, vr26, vr27, vr28, vr29, vr30, vr31, vr32, vr33, vr34, opS, fpS, extO, okP, pack, nAl, allocA, shId, leaves, fillA, fillR, splice, Nat.reduceLT, Nat.reduceEqDiff, Nat.reduceLeDiff, Nat.reduceAdd, Nat.reduceSub, Nat.reduceMul, Int.reduceBEq, Int.reduceBNe, Int.reduceLT, Int.reduceLE, Int.reduceEq, reduceIte, reduceCtorEq, da, int, boolA, e1, e7]; rfl)
  · have e : few11 f h pages l = false := by unfold few11; rw [hm]; rfl
    rw [e]
    simp only [↓vp, vq0, vq1, vq2, vq3, vr0, vr1, vr2, vr3, vr4, vr5, vr6, vr7, vr8, vr9, vr10, vr11, vr12, vr13, vr14, vr15, vr16, vr17, vr18, vr19, vr20, vr21, vr22, vr23, vr24, vr25, vr26, vr27, vr28, vr29, vr30, vr31, vr32, vr33, vr34, opS, fpS, extO, okP, pack, nAl, allocA, shId, leaves, fillA, fillR, splice, Nat.reduceLT, Nat.reduceEqDiff, Nat.reduceLeDiff, Nat.reduceAdd, Nat.reduceSub, Nat.reduceMul, Int.reduceBEq, Int.reduceBNe, Int.reduceLT, Int.reduceLE, Int.reduceEq, reduceIte, reduceCtorEq, da, int, boolA, RetP_go, resT, resC, resN, retV1, retV2, retV3, retV0, frzFZ, takeM, Option.some.injEq, q2]
  all_goals first | rfl | (simp only [↓vp, vq0, vq1, vq2, vq3, vr0, vr1, vr2, vr3, vr4, vr5, vr6, vr7, vr8, vr9, vr10, vr11, vr12, vr13, vr14, vr15, vr16, vr17, vr18, vr19, vr20, vr21, vr22, vr23, vr24, vr25, vr26, vr27, vr28, vr29, vr30, vr31, vr32, vr33, vr34, opS, fpS, extO, okP, pack, nAl, allocA, shId, leaves, fillA, fillR, splice, Nat.reduceLT, Nat.reduceEqDiff, Nat.reduceLeDiff, Nat.reduceAdd, Nat.reduceSub, Nat.reduceMul, Int.reduceBEq, Int.reduceBNe, Int.reduceLT, Int.reduceLE, Int.reduceEq, reduceIte, reduceCtorEq, da, int, boolA]; done)
end Go.VI

set_option linter.unusedVariables false
set_option linter.unusedSimpArgs false
set_option maxRecDepth 100000
namespace Go.VI
open Go.Proofs
variable {W : World}
theorem bulk_one {H : Type} (d : DataW H) : 1 ≤ Ytoinghjainpkfaa.Rows.uptoBulk d := by
  cases d with
  | lit l => cases l <;> simp [Ytoinghjainpkfaa.Rows.uptoBulk]
  | nil => simp [Ytoinghjainpkfaa.Rows.uptoBulk]
  | ptr d => simp [Ytoinghjainpkfaa.Rows.uptoBulk]
  | slice elems spare => simp [Ytoinghjainpkfaa.Rows.uptoBulk]
  | agg parts => simp [Ytoinghjainpkfaa.Rows.uptoBulk]
  | iface t d => simp [Ytoinghjainpkfaa.Rows.uptoBulk]
  | map entries => simp [Ytoinghjainpkfaa.Rows.uptoBulk]
  | held h => simp [Ytoinghjainpkfaa.Rows.uptoBulk]
theorem bulk_len {H : Type} (l : List (DataW H)) : l.length ≤ Ytoinghjainpkfaa.Rows.uptoBulkAll l := by
  induction l with
  | nil => simp [Ytoinghjainpkfaa.Rows.uptoBulkAll]
  | cons x r ih => have := bulk_one x; simp only [Ytoinghjainpkfaa.Rows.uptoBulkAll, List.length_cons]; omega
theorem lst_len {F : Fz} {rows : List (List AV)} {A : Option Addr} {n cap : Nat} (h : VF F (.lst rows) (.slice A n cap)) : rows.length = n := by
  cases h
  rfl
theorem lst_bulk {H : Type} {enc : TypeId × Value → H} {base : Nat} {spare : Nat → Bool} {held : Bool} {fuel : Nat} {v : Value} {x : DataW H × List MemPlace} {l : List RunM}
    (h : DataW.trod enc Try.prog W base spare held fuel 62 [v] = some x) (hc : CVF (frzW W) [encR l] [v]) : l.length ≤ Ytoinghjainpkfaa.Rows.uptoBulk x.1 := by
  have hv := (hc.2 0 _ rfl).2
  rcases DataW.trod_slice Try.underlying62 h with ⟨e, rfl⟩ | ⟨a, len, cap, elems, rest, n, rfl, e, rfl, hb, hl, hm, hlen, hel, _, _⟩
  · cases e
    have := lst_len hv
    rw [List.length_map] at this
    omega
  · cases e
    have := lst_len hv
    rw [List.length_map] at this
    have h2 := bulk_len (elems.map (·.1))
    rw [List.length_map] at h2
    simp only [Ytoinghjainpkfaa.Rows.uptoBulk]
    omega
/-- A state. -/
theorem stU {H : Type} {enc : TypeId × Value → H} {base : Nat} {spare : Nat → Bool} {held : Bool} {fuel : Nat} {cs : List Value} {x : DataW H × List MemPlace} (h : DataW.trod enc Try.prog W base spare held fuel 92 cs = some x)
    (hw : ∀ n ∈ x.1.weights Try.prog 92, n ≤ reachBytes) (hb : Ytoinghjainpkfaa.Rows.uptoBulk x.1 ≤ 1048576) : ∃ l : List RunM × List RunM, (l.1.length ≤ 1048576 ∧ l.2.length ≤ 1048576) ∧ CVF (frzW W) [encR l.1, encR l.2] cs := by
  obtain ⟨y0, y1, n, rfl, hl, h0, h1⟩ := ChangeShapes.trod_struct2 Try.underlying92 h
  have c92 : Try.prog.cellsOf 92 = 2 := by kernel_rfl
  have c62 : Try.prog.cellsOf 62 = 1 := by kernel_rfl
  rw [c92] at hl
  match cs, hl with
  | [v0, v1], _ =>
    simp only [c62, List.drop_zero, List.take_succ_cons, List.take_zero, List.drop_succ_cons] at h0 h1
    have hw' : ∀ k ∈ DataW.weightsEach Try.prog [62, 62] [y0.1, y1.1], k ≤ reachBytes := fun k hk => hw k (by simpa [DataW.weights, Try.underlying92] using hk)
    simp only [DataW.weightsEach, List.mem_append] at hw'
    obtain ⟨_, ⟨f, rfl, _⟩, q0⟩ := rdR W H enc base spare held n _ _ h0 fun k hk => hw' k (.inl hk)
    obtain ⟨_, ⟨g, rfl, _⟩, q1⟩ := rdR W H enc base spare held n _ _ h1 fun k hk => hw' k (.inr (.inl hk))
    have b0 := lst_bulk h0 q0
    have b1 := lst_bulk h1 q1
    simp only [Ytoinghjainpkfaa.Rows.uptoBulk, Ytoinghjainpkfaa.Rows.uptoBulkAll] at hb
    exact ⟨(f, g), ⟨by simp only; omega, by simp only; omega⟩, q0.cons q1⟩
variable (W)
theorem rdOp : RD Try.prog W 118 fun xs => ∃ o : OpM, xs = pOpC o ∧ True :=
  (rd_struct (Es := [_, _, _, _]) Try.underlying118 (by kernel_rfl) ⟨rdInt W, rdInt W, rdInt W, rdRn W, trivial⟩).mono fun xs h => by
    obtain ⟨_, _, rfl, ⟨a, rfl, _⟩, _, _, rfl, ⟨b, rfl, _⟩, _, _, rfl, ⟨c, rfl, _⟩, _, _, rfl, ⟨x, rfl, _⟩, rfl⟩ := h
    exact ⟨⟨a, b, c, x.1, x.2⟩, rfl, trivial⟩
def okO (l : List OpM) : Prop := l.length ≤ 100000000000000
theorem rdO : RD Try.prog W 111 fun xs => ∃ l : List OpM, xs = [encO l] ∧ okO l :=
  (rd_slice (sz := 5) (B := 40) Try.underlying111 (by kernel_rfl) (by decide) (by kernel_rfl) (rdOp W)).mono fun xs ⟨rows, h1, h2, h3⟩ => by
    obtain ⟨l, rfl, hl⟩ := rows_map (g := pOpC) (p := fun _ => True) fun r hr => (h2 r hr).1
    refine ⟨l, h1, ?_⟩
    simp only [List.length_map, reachBytes] at h3
    unfold okO
    omega
end Go.VI

set_option linter.unusedVariables false
set_option linter.unusedSimpArgs false
set_option maxRecDepth 100000
namespace Go.Proofs
open Go.Shelf
def Try.mapsClone_ren : Go.Shelf.Ren := ⟨fun | 5 => 132 | 7 => 168 | n => n, fun | 20 => 20 | 23 => 163 | 25 => 3 | 3 => 68 | 4 => 4 | n => n, fun | n => n⟩
theorem Try.mapsClone : Go.Proofs.SlLaysW.n5 Try.prog Try.mapsClone_ren := {
  mixed := by kernel_rfl
  f5 := ⟨Try.f132.name, by decide, Try.func132.trans (congrArg some (by kernel_rfl))⟩
  f7 := Try.func168.trans (congrArg some (by kernel_rfl))
  t4 := Try.underlying4
  a4 := Try.isAgg4
  z4 := Try.sizeOf4
  v4 := Try.zeroValue4
  t20 := Try.underlying20
  a20 := Try.isAgg20
  z20 := Try.sizeOf20
  v20 := Try.zeroValue20
  t23 := Try.underlying163
  a23 := Try.isAgg163
  z23 := Try.sizeOf163
  v23 := Try.zeroValue163 }
end Go.Proofs
namespace Go.VI
open Go.Proofs Go.Shelf
theorem cloMP_ok : PrimOk Go.Proofs.Try.prog 132 cloMP := by
  intro args H H' r h m F w vs hI hv
  unfold cloMP at h
  split at h
  rotate_left
  · cases h
  rename_i mid
  split at h
  rotate_left
  · cases h
  rename_i kd es bs ck hg
  cases h
  obtain ⟨mb, hm, he⟩ := vr_mp (hv.val 0 _ rfl)
  obtain rfl : vs = #[.map (some mb.cb)] := by
    have hl := hv.len
    refine Array.ext (by simpa using hl) fun i h1 h2 => ?_
    simp at h2
    subst h2
    simpa [Array.getD_eq_getD_getElem?, h1] using he
  obtain ⟨ens, h1, h2, h2b, h3⟩ := hI.blk mid mb _ hm hg
  obtain ⟨q1, q2⟩ := Inv.push hI.free hI (wd := w) rfl rfl rfl rfl (.map ens ck) (.mpb kd es bs ck) 0 0 0 ⟨ens, heap_alloc_at, h2, h2b, fun i k v hi => by
    obtain ⟨en, c1, c2, c3, c4, c5⟩ := h3 i k v hi
    exact ⟨en, c1, c2.mono (mset_le _ hI.free.no) (FLe.refl F), c3, c4.mono (mset_le _ hI.free.no) (FLe.refl F), c5⟩⟩
  have hput : H.put H.next (.mpb kd es bs ck) = hx H [.mpb kd es bs ck] := by
    have := hx_put0 H [] (.mpb kd es bs ck)
    rw [hx_nil] at this
    rw [this]
    rfl
  rw [hput] at q1
  refine .inl ⟨Try.mapsClone.f5.enters rfl _ _, ?_⟩
  refine (AnyW.maps_Clone Try.mapsClone mb.cb ens ck w h1).mono fun e w' ⟨he, hw⟩ => ?_
  subst hw
  exact ⟨_, _, F, he, .mp (mset_self _ _ _), q1, q2, ⟨fun id mb' x => by
    rcases mset_cases x with ⟨rfl, _⟩ | ⟨_, x⟩
    · exact .inr (Nat.le_refl _)
    · exact .inl x, by rw [hx_next]; omega⟩⟩
end Go.VI

set_option linter.unusedVariables false
set_option maxRecDepth 100000
namespace Go.VI
theorem fc121 : compF Go.Proofs.Try.prog 121 = some (3, r121, c121) := by kernel_rfl
theorem fn121 : (Go.Proofs.Try.prog.funcs[121]?).all (fun fn => !(fn.name == "runtime.NumGoroutine")) = true := by kernel_rfl
theorem fc122 : compF Go.Proofs.Try.prog 122 = some (14, r122, c122) := by kernel_rfl
theorem fn122 : (Go.Proofs.Try.prog.funcs[122]?).all (fun fn => !(fn.name == "runtime.NumGoroutine")) = true := by kernel_rfl
theorem fc133 : compF Go.Proofs.Try.prog 133 = some (7, r133, c133) := by kernel_rfl
theorem fn133 : (Go.Proofs.Try.prog.funcs[133]?).all (fun fn => !(fn.name == "runtime.NumGoroutine")) = true := by kernel_rfl
theorem fc124 : compF Go.Proofs.Try.prog 124 = some (9, r124, c124) := by kernel_rfl
theorem fn124 : (Go.Proofs.Try.prog.funcs[124]?).all (fun fn => !(fn.name == "runtime.NumGoroutine")) = true := by kernel_rfl
theorem fc55 : compF Go.Proofs.Try.prog 55 = some (73, r55, c55) := by kernel_rfl
theorem fn55 : (Go.Proofs.Try.prog.funcs[55]?).all (fun fn => !(fn.name == "runtime.NumGoroutine")) = true := by kernel_rfl
theorem fc56 : compF Go.Proofs.Try.prog 56 = some (97, r56, c56) := by kernel_rfl
theorem fn56 : (Go.Proofs.Try.prog.funcs[56]?).all (fun fn => !(fn.name == "runtime.NumGoroutine")) = true := by kernel_rfl
theorem fc57 : compF Go.Proofs.Try.prog 57 = some (60, r57, c57) := by kernel_rfl
theorem fn57 : (Go.Proofs.Try.prog.funcs[57]?).all (fun fn => !(fn.name == "runtime.NumGoroutine")) = true := by kernel_rfl
theorem fc58 : compF Go.Proofs.Try.prog 58 = some (37, r58, c58) := by kernel_rfl
theorem fn58 : (Go.Proofs.Try.prog.funcs[58]?).all (fun fn => !(fn.name == "runtime.NumGoroutine")) = true := by kernel_rfl
theorem fc59 : compF Go.Proofs.Try.prog 59 = some (7, r59, c59) := by kernel_rfl
theorem fn59 : (Go.Proofs.Try.prog.funcs[59]?).all (fun fn => !(fn.name == "runtime.NumGoroutine")) = true := by kernel_rfl
theorem fc60 : compF Go.Proofs.Try.prog 60 = some (8, r60, c60) := by kernel_rfl
theorem fn60 : (Go.Proofs.Try.prog.funcs[60]?).all (fun fn => !(fn.name == "runtime.NumGoroutine")) = true := by kernel_rfl
theorem fc61 : compF Go.Proofs.Try.prog 61 = some (68, r61, c61) := by kernel_rfl
theorem fn61 : (Go.Proofs.Try.prog.funcs[61]?).all (fun fn => !(fn.name == "runtime.NumGoroutine")) = true := by kernel_rfl
theorem fc62 : compF Go.Proofs.Try.prog 62 = some (18, r62, c62) := by kernel_rfl
theorem fn62 : (Go.Proofs.Try.prog.funcs[62]?).all (fun fn => !(fn.name == "runtime.NumGoroutine")) = true := by kernel_rfl
theorem fc63 : compF Go.Proofs.Try.prog 63 = some (5, r63, c63) := by kernel_rfl
theorem fn63 : (Go.Proofs.Try.prog.funcs[63]?).all (fun fn => !(fn.name == "runtime.NumGoroutine")) = true := by kernel_rfl
theorem fc64 : compF Go.Proofs.Try.prog 64 = some (58, r64, c64) := by kernel_rfl
theorem fn64 : (Go.Proofs.Try.prog.funcs[64]?).all (fun fn => !(fn.name == "runtime.NumGoroutine")) = true := by kernel_rfl
theorem fc65 : compF Go.Proofs.Try.prog 65 = some (25, r65, c65) := by kernel_rfl
theorem fn65 : (Go.Proofs.Try.prog.funcs[65]?).all (fun fn => !(fn.name == "runtime.NumGoroutine")) = true := by kernel_rfl
theorem fc72 : compF Go.Proofs.Try.prog 72 = some (35, r72, c72) := by kernel_rfl
theorem fn72 : (Go.Proofs.Try.prog.funcs[72]?).all (fun fn => !(fn.name == "runtime.NumGoroutine")) = true := by kernel_rfl
theorem fc74 : compF Go.Proofs.Try.prog 74 = some (23, r74, c74) := by kernel_rfl
theorem fn74 : (Go.Proofs.Try.prog.funcs[74]?).all (fun fn => !(fn.name == "runtime.NumGoroutine")) = true := by kernel_rfl
theorem fc118 : compF Go.Proofs.Try.prog 118 = some (19, r118, c118) := by kernel_rfl
theorem fn118 : (Go.Proofs.Try.prog.funcs[118]?).all (fun fn => !(fn.name == "runtime.NumGoroutine")) = true := by kernel_rfl
theorem fc119 : compF Go.Proofs.Try.prog 119 = some (44, r119, c119) := by kernel_rfl
theorem fn119 : (Go.Proofs.Try.prog.funcs[119]?).all (fun fn => !(fn.name == "runtime.NumGoroutine")) = true := by kernel_rfl
theorem fc166 : compF Go.Proofs.Try.prog 166 = some (22, r166, c166) := by kernel_rfl
theorem fn166 : (Go.Proofs.Try.prog.funcs[166]?).all (fun fn => !(fn.name == "runtime.NumGoroutine")) = true := by kernel_rfl
theorem fc120 : compF Go.Proofs.Try.prog 120 = some (25, r120, c120) := by kernel_rfl
theorem fn120 : (Go.Proofs.Try.prog.funcs[120]?).all (fun fn => !(fn.name == "runtime.NumGoroutine")) = true := by kernel_rfl
theorem fc123 : compF Go.Proofs.Try.prog 123 = some (19, r123, c123) := by kernel_rfl
theorem fn123 : (Go.Proofs.Try.prog.funcs[123]?).all (fun fn => !(fn.name == "runtime.NumGoroutine")) = true := by kernel_rfl
theorem fc73 : compF Go.Proofs.Try.prog 73 = some (44, r73, c73) := by kernel_rfl
theorem fn73 : (Go.Proofs.Try.prog.funcs[73]?).all (fun fn => !(fn.name == "runtime.NumGoroutine")) = true := by kernel_rfl
theorem ftK_ok : FTOk Go.Proofs.Try.prog ftK := by
  intro k d h
  unfold ftK at h
  split at h
  · cases h; exact go_ok fc121 fn121
  · cases h; exact go_ok fc122 fn122
  · cases h; exact go_ok fc133 fn133
  · cases h; exact go_ok fc124 fn124
  · cases h
theorem ftU_ok : FTOk Go.Proofs.Try.prog ftU := by
  intro k d h
  unfold ftU at h
  split at h
  · cases h; exact goP_ok follows ftM_ok ⟨_, _, _, rfl⟩
  · cases h; exact cloF_ok follows g111
  · cases h; exact cloMP_ok
  · cases h; exact roP_ok (goP_ok follows ftK_ok ⟨_, _, _, rfl⟩)
  · cases h; exact roP_ok (goP_ok follows ftK_ok ⟨_, _, _, rfl⟩)
  · cases h; exact roP_ok (goP_ok follows ftK_ok ⟨_, _, _, rfl⟩)
  · cases h; exact roP_ok (goP_ok follows ftK_ok ⟨_, _, _, rfl⟩)
  · cases h
theorem pp120 : PrimOk Go.Proofs.Try.prog 120 unionP := slF_ok follows ftU_ok (go_ok fc120 fn120) unionP_sl
theorem pp123 : PrimOk Go.Proofs.Try.prog 123 delP' := slF_ok follows ftU_ok (go_ok fc123 fn123) delP'_sl
theorem pp73 : PrimOk Go.Proofs.Try.prog 73 copyP := slF_ok follows ftU_ok (go_ok fc73 fn73) copyP_sl
theorem ftB_ok : FTOk Go.Proofs.Try.prog ftB := by
  intro k d h
  unfold ftB at h
  split at h
  · cases h; exact goP_ok follows ftM_ok ⟨_, _, _, rfl⟩
  · cases h; exact goP_ok follows ftM_ok ⟨_, _, _, rfl⟩
  · cases h; exact goP_ok follows ftM_ok ⟨_, _, _, rfl⟩
  · cases h; exact goP_ok follows ftM_ok ⟨_, _, _, rfl⟩
  · cases h; exact goP_ok follows ftM_ok ⟨_, _, _, rfl⟩
  · cases h; exact goP_ok follows ftM_ok ⟨_, _, _, rfl⟩
  · cases h; exact goP_ok follows ftM_ok ⟨_, _, _, rfl⟩
  · cases h; exact goP_ok follows ftM_ok ⟨_, _, _, rfl⟩
  · cases h; exact cloF_ok follows g111
  · cases h; exact pp120
  · cases h; exact pp123
  · cases h; exact pp73
  · cases h; exact go_ok fc55 fn55
  · cases h; exact go_ok fc56 fn56
  · cases h; exact go_ok fc57 fn57
  · cases h; exact go_ok fc58 fn58
  · cases h; exact go_ok fc59 fn59
  · cases h; exact go_ok fc60 fn60
  · cases h; exact go_ok fc61 fn61
  · cases h; exact go_ok fc62 fn62
  · cases h; exact go_ok fc63 fn63
  · cases h; exact go_ok fc64 fn64
  · cases h; exact go_ok fc65 fn65
  · cases h; exact go_ok fc72 fn72
  · cases h; exact go_ok fc74 fn74
  · cases h; exact go_ok fc118 fn118
  · cases h; exact go_ok fc119 fn119
  · cases h; exact go_ok fc166 fn166
  · cases h
end Go.VI

set_option linter.unusedVariables false
set_option linter.unusedSimpArgs false
set_option maxRecDepth 100000
namespace Go.VI
/-- Who holds a page: -2 nobody's, or used; -1 free; else a transaction. -/
structure PRel (p : PoolM) (w : Int → Int) : Prop where
  lo : 2 ≤ p.pages
  le : p.pages ≤ p.limit
  hi : p.limit ≤ 16384
  rf : rightM p.free = true
  rh : ∀ y ∈ p.held, rightM y.2 = true
  free : ∀ k, inR p.free k = true ↔ w k = -1
  key : ∀ y ∈ p.held, 0 ≤ y.1
  held : ∀ y ∈ p.held, ∀ k, inR y.2 k = true ↔ w k = y.1
  cov : ∀ k, 0 ≤ w k → ∃ y ∈ p.held, y.1 = w k
  rg : ∀ k, w k ≠ -2 → 2 ≤ k ∧ k < p.pages
  ge : ∀ k, -2 ≤ w k
theorem endM_gt {x : RunM} (h : mayM x = true) : x.1 < endM x := by have := mayM_iff.1 h; unfold endM; omega
theorem in_last {x : RunM} {l : List RunM} (hx : x ∈ l) (h : mayM x = true) : inR l (endM x - 1) = true := inR_t.2 ⟨x, hx, by have := endM_gt h; omega, by omega⟩
theorem in_first {x : RunM} {l : List RunM} (hx : x ∈ l) (h : mayM x = true) : inR l x.1 = true := inR_t.2 ⟨x, hx, by omega, endM_gt h⟩
theorem put_at {t : Int} {u : List RunM} : ∀ {hd : HeldM} {y : Int × List RunM}, y ∈ hd → (hd.map (·.1)).Nodup → y.1 ≠ t → y ∈ putO t u hd
  | [], y, hy, _, _ => by cases hy
  | x :: hd, y, hy, hn, hne => by
    unfold putO
    rw [List.map_cons, List.nodup_cons] at hn
    split
    · rename_i e
      have e : t = x.1 := by simpa using e
      rcases List.mem_cons.1 hy with rfl | hy
      · exact absurd e.symm hne
      · simp [hy]
    · rcases List.mem_cons.1 hy with rfl | hy
      · simp
      · exact List.mem_cons.2 (.inr (put_at hy hn.2 hne))
theorem put_key {t : Int} {u : List RunM} : ∀ {hd : HeldM}, (t, u) ∈ putO t u hd
  | [] => by simp [putO]
  | x :: hd => by
    unfold putO
    split
    · simp
    · exact List.mem_cons.2 (.inr put_key)
theorem put_only {t : Int} {u : List RunM} : ∀ {hd : HeldM}, (hd.map (·.1)).Nodup → ∀ {y : Int × List RunM}, y ∈ putO t u hd → y.1 = t → y.2 = u
  | [], _, y, hy, e => by
    simp [putO] at hy
    rw [hy]
  | x :: hd, hn, y, hy, e => by
    unfold putO at hy
    rw [List.map_cons, List.nodup_cons] at hn
    split at hy
    · rename_i e'
      have e' : t = x.1 := by simpa using e'
      rcases List.mem_cons.1 hy with rfl | hy
      · rfl
      · exact absurd (by rw [← e', ← e]; exact List.mem_map_of_mem hy) hn.1
    · rename_i e'
      rcases List.mem_cons.1 hy with rfl | hy
      · rw [e] at e'; simp at e'
      · exact put_only hn.2 hy e
section
variable {p : PoolM} {w : Int → Int} (h : PRel p w)
include h
theorem PRel.ok : PoolOk p := by
  refine ⟨h.lo, h.le, h.hi, fun x hx => ?_, fun y hy x hx => ?_⟩
  · have hm := (right_iff.1 h.rf).1 x hx
    have := h.rg _ (by rw [(h.free _).1 (in_last hx hm)]; decide)
    omega
  · have hm := (right_iff.1 (h.rh y hy)).1 x hx
    have := h.rg _ (by rw [(h.held y hy _).1 (in_last hx hm)]; have := h.key y hy; omega)
    omega
theorem PRel.sel (hb : Int → Bool) (k : Int) : inR (unionSel hb p.held) k = true ↔ 0 ≤ w k ∧ hb (w k) = true := by
  rw [(unionSel_ok hb p.held).2]
  constructor
  · rintro ⟨y, hy, h1, h2⟩
    rw [clean_of (h.rh y hy), h.held y hy] at h2
    rw [h2]
    exact ⟨h.key y hy, h1⟩
  · rintro ⟨h1, h2⟩
    obtain ⟨y, hy, e⟩ := h.cov k h1
    exact ⟨y, hy, by rw [e]; exact h2, by rw [clean_of (h.rh y hy), h.held y hy, e]⟩
theorem PRel.all (k : Int) : inR (unionSel (fun _ => true) p.held) k = true ↔ 0 ≤ w k := by
  rw [h.sel]
  simp
theorem PRel.get {t : Int} (ht : 0 ≤ t) : rightM ((getO t p.held).getD []) = true ∧ ∀ k, inR ((getO t p.held).getD []) k = true ↔ w k = t := by
  cases e : getO t p.held with
  | some l => exact ⟨h.rh _ (getO_mem e), fun k => h.held _ (getO_mem e) k⟩
  | none =>
    refine ⟨rfl, fun k => ⟨fun q => absurd (show inR [] k = true from q) (by simp [inR]), fun q => ?_⟩⟩
    obtain ⟨y, hy, e'⟩ := h.cov k (by omega)
    have hn : ∀ {hd : HeldM}, getO t hd = none → ∀ y ∈ hd, y.1 ≠ t := fun {hd} => by
      induction hd with
      | nil => intro _ y hy; cases hy
      | cons x hd ih =>
        intro e y hy
        unfold getO at e
        split at e
        · cases e
        · rename_i hne
          rcases List.mem_cons.1 hy with rfl | hy
          · intro q; rw [q] at hne; simp at hne
          · exact ih e y hy
    exact absurd (by omega) (hn e y hy)
theorem PRel.state (t : Int) : rightM (unionM p.free (unionSel (fun k => k != t) p.held)) = true ∧ ∀ k, inR (unionM p.free (unionSel (fun k => k != t) p.held)) k = true ↔ w k = -1 ∨ (0 ≤ w k ∧ w k ≠ t) := by
  refine ⟨(unionM_ok _ _).1, fun k => ?_⟩
  rw [(unionM_ok _ _).2, Bool.or_eq_true, clean_of h.rf, clean_of (unionSel_ok _ _).1, h.free, h.sel]
  simp
def settleW (x o : Int) (w : Int → Int) (k : Int) : Int := if 0 ≤ w k ∧ oldB x o (w k) = true then -1 else w k
theorem PRel.settle (x o : Int) : PRel (settleP p x o) (settleW x o w) := by
  have hs : ∀ k, settleW x o w k = -1 ↔ w k = -1 ∨ (0 ≤ w k ∧ oldB x o (w k) = true) := fun k => by
    unfold settleW
    split
    · rename_i q; exact ⟨fun _ => .inr q, fun _ => rfl⟩
    · rename_i q; exact ⟨.inl, fun e => e.resolve_right q⟩
  refine ⟨h.lo, h.le, h.hi, (unionM_ok _ _).1, fun y hy => h.rh y (List.mem_filter.1 hy).1, fun k => ?_, fun y hy => h.key y (List.mem_filter.1 hy).1, fun y hy k => ?_, fun k hk => ?_, fun k hk => h.rg k fun e => hk ?_, fun k => ?_⟩
  · show inR (unionM p.free (unionSel (oldB x o) p.held)) k = true ↔ _
    rw [(unionM_ok _ _).2, Bool.or_eq_true, clean_of h.rf, clean_of (unionSel_ok _ _).1, h.free, h.sel, hs]
  · obtain ⟨h1, h2⟩ := List.mem_filter.1 hy
    rw [h.held y h1 k]
    have hk := h.key y h1
    unfold settleW
    split
    · rename_i q
      constructor
      · intro e; rw [e] at q; rw [q.2] at h2; cases h2
      · intro e; omega
    · exact Iff.rfl
  · unfold settleW at hk ⊢
    split at hk
    · omega
    · rename_i q
      rw [if_neg q]
      obtain ⟨y, hy, e⟩ := h.cov k hk
      refine ⟨y, List.mem_filter.2 ⟨hy, ?_⟩, e⟩
      rw [e]
      cases e' : oldB x o (w k) with
      | true => exact absurd ⟨hk, e'⟩ q
      | false => rfl
  · unfold settleW
    rw [e, if_neg (by omega)]
  · unfold settleW
    have := h.ge k
    split <;> omega
def putW (a n t : Int) (w : Int → Int) (k : Int) : Int := if a ≤ k ∧ k < a + n then t else w k
theorem PRel.giveBad {t : Int} {x : RunM} : giveE p t x = 1 ↔ (t < 0 ∨ mayM x = false ∨ x.1 < 2 ∨ endM x > p.pages) := by
  have _q := h
  have hr : rightM [x] = mayM x := by
    cases e : mayM x with
    | true => exact right_iff.2 ⟨by simp [e], by simp⟩
    | false =>
      cases e' : rightM [x] with
      | false => rfl
      | true => rw [(right_iff.1 e').1 x (by simp)] at e; cases e
  have he : mayM x = true → endsM [x] = endM x := fun e => by
    unfold endsM
    rw [clean_of (by rw [hr, e])]
    rfl
  have hb : badGive p t x = true ↔ (t < 0 ∨ mayM x = false ∨ x.1 < 2 ∨ endM x > p.pages) := by
    unfold badGive
    rw [hr]
    cases e : mayM x with
    | true => rw [he e]; simp [or_assoc]
    | false => simp
  rw [← hb]
  unfold giveE
  cases badGive p t x with
  | true => simp
  | false => cases hitGive p x <;> simp
theorem PRel.give (hn : (p.held.map (·.1)).Nodup) {t : Int} {x : RunM} (h0 : giveE p t x = 0) : 0 ≤ t ∧ mayM x = true ∧ 2 ≤ x.1 ∧ endM x ≤ p.pages ∧ (∀ k, x.1 ≤ k → k < endM x → w k = -2) ∧ PRel (giveP p t x) (putW x.1 x.2 t w) := by
  have hb' : ¬ giveE p t x = 1 := by rw [h0]; decide
  rw [h.giveBad] at hb'
  have hm : mayM x = true := by cases e : mayM x with
    | true => rfl
    | false => exact absurd (.inr (.inl e)) hb'
  have hr : rightM [x] = true := right_iff.2 ⟨by simp [hm], by simp⟩
  have ht : 0 ≤ t := by omega
  have hx : ∀ k, inR [x] k = true ↔ x.1 ≤ k ∧ k < endM x := fun k => by
    rw [inR_cons, inR_nil, Bool.or_false, pinR_t]
  have hno : ∀ k, x.1 ≤ k → k < endM x → w k = -2 := fun k h1 h2 => by
    have e1 : hitGive p x = false := by
      cases e : hitGive p x with
      | false => rfl
      | true =>
        unfold giveE at h0
        rw [e] at h0
        cases e' : badGive p t x with
        | true => rw [e'] at h0; simp at h0
        | false => rw [e'] at h0; simp at h0
    unfold hitGive at e1
    rw [Bool.or_eq_false_iff] at e1
    have n1 : w k ≠ -1 := fun q => by
      have : meetM p.free [x] = true := meetM_iff.2 ⟨k, by rw [clean_of h.rf, h.free]; exact q, by rw [clean_of hr, hx]; exact ⟨h1, h2⟩⟩
      rw [e1.1] at this; cases this
    have n2 : ¬ 0 ≤ w k := fun q => by
      have : meetM (unionSel (fun _ => true) p.held) [x] = true := meetM_iff.2 ⟨k, by rw [clean_of (unionSel_ok _ _).1, h.all]; exact q, by rw [clean_of hr, hx]; exact ⟨h1, h2⟩⟩
      rw [e1.2] at this; cases this
    have := h.ge k
    omega
  refine ⟨ht, hm, by omega, by omega, hno, ?_⟩
  have hg := h.get ht
  have hu := unionM_ok ((getO t p.held).getD []) [x]
  have ex : endM x = x.1 + x.2 := rfl
  have huk : ∀ k, inR (giveU p t x) k = true ↔ w k = t ∨ (x.1 ≤ k ∧ k < endM x) := fun k => by
    unfold giveU
    rw [hu.2, Bool.or_eq_true, clean_of hg.1, clean_of hr, hg.2, hx]
  have hw : ∀ k, (x.1 ≤ k ∧ k < endM x) → putW x.1 x.2 t w k = t := fun k q => by unfold putW; rw [if_pos (by omega)]
  have hw' : ∀ k, ¬ (x.1 ≤ k ∧ k < endM x) → putW x.1 x.2 t w k = w k := fun k q => by unfold putW; rw [if_neg (by omega)]
  unfold giveP
  rw [if_pos h0]
  refine ⟨h.lo, h.le, h.hi, h.rf, fun y hy => ?_, fun k => ?_, fun y hy => ?_, fun y hy k => ?_, fun k hk => ?_, fun k hk => ?_, fun k => ?_⟩
  · rcases put_mem hy with rfl | hy
    · exact hu.1
    · exact h.rh y hy
  · by_cases q : x.1 ≤ k ∧ k < endM x
    · rw [hw k q]
      have := hno k q.1 q.2
      constructor
      · intro e; rw [h.free] at e; omega
      · intro e; omega
    · rw [hw' k q]; exact h.free k
  · rcases put_mem hy with rfl | hy
    · exact ht
    · exact h.key y hy
  · by_cases e : y.1 = t
    · rw [put_only hn hy e, huk, e]
      by_cases q : x.1 ≤ k ∧ k < endM x
      · rw [hw k q]; exact ⟨fun _ => rfl, fun _ => .inr q⟩
      · rw [hw' k q]; exact ⟨fun e => e.resolve_right q, .inl⟩
    · rcases put_mem hy with rfl | hy
      · exact absurd rfl e
      rw [h.held y hy]
      have hk := h.key y hy
      by_cases q : x.1 ≤ k ∧ k < endM x
      · rw [hw k q, hno k q.1 q.2]
        constructor
        · intro q; omega
        · intro q; exact absurd q.symm e
      · rw [hw' k q]
  · by_cases q : putW x.1 x.2 t w k = t
    · exact ⟨_, put_key, q.symm⟩
    · by_cases q' : x.1 ≤ k ∧ k < endM x
      · exact absurd (hw k q') q
      · rw [hw' k q'] at hk q ⊢
        obtain ⟨y, hy, e⟩ := h.cov k hk
        exact ⟨y, put_at hy hn (by rw [e]; exact q), e⟩
  · by_cases q' : x.1 ≤ k ∧ k < endM x
    · show 2 ≤ k ∧ k < p.pages
      omega
    · rw [hw' k q'] at hk; exact h.rg k hk
  · by_cases q' : x.1 ≤ k ∧ k < endM x
    · rw [hw k q']; omega
    · rw [hw' k q']; exact h.ge k
end
end Go.VI

set_option linter.unusedVariables false
set_option linter.unusedSimpArgs false
set_option maxRecDepth 100000
namespace Go.VI
attribute [local congr] AW_congr OW_congr DW_congr NW_congr VW_congr GW_congr PW_congr KW_congr ite_congr' GV_congr CV_congr KF_congr
theorem AW_sub {ft ft' : FT} (hs : Sub ft ft') {c : ACode} {e : Env} {H : Heap} {Q : AExit → Env → Heap → Prop} (h : AW ft c e H Q) : AW ft' c e H Q := by
  obtain ⟨x, e', H', h, hq⟩ := h
  obtain ⟨n, hn⟩ := execL_some.1 h
  exact ⟨x, e', H', execL_some.2 ⟨n, exec_sub hs n _ _ _ _ hn⟩, hq⟩
end Go.VI

set_option linter.unusedVariables false
set_option linter.unusedSimpArgs false
set_option maxRecDepth 100000
namespace Go.VI
section
variable {p : PoolM} {w : Int → Int} (h : PRel p w)
include h
theorem PRel.tail : 0 ≤ tailP p ∧ 2 ≤ p.pages - tailP p ∧ (∀ k, p.pages - tailP p ≤ k → k < p.pages → w k = -1) ∧ w (p.pages - tailP p - 1) ≠ -1 ∧
    (0 < tailP p → ∃ l y, p.free = l ++ [y] ∧ y.2 = tailP p ∧ y.1 + y.2 = p.pages) := by
  have hlo := h.lo
  have hlast : ∀ k, w k = -1 → 2 ≤ k ∧ k < p.pages := fun k q => h.rg k (by omega)
  unfold tailP
  split
  · rename_i y hy
    have hmem := List.mem_of_getLast? hy
    have hm := (right_iff.1 h.rf).1 y hmem
    have my := mayM_iff.1 hm
    have ex : endM y = y.1 + y.2 := rfl
    have hdl : p.free = p.free.dropLast ++ [y] := by
      rw [List.getLast?_eq_some_iff] at hy
      obtain ⟨l, hl⟩ := hy
      rw [hl]
      simp
    split
    · rename_i e
      have h1 := hlast y.1 ((h.free _).1 (in_first hmem hm))
      refine ⟨by omega, by omega, fun k h1 h2 => (h.free k).1 (inR_t.2 ⟨y, hmem, by omega, by omega⟩), fun q => ?_, fun _ => ⟨_, y, hdl, rfl, e⟩⟩
      rw [← h.free] at q
      obtain ⟨z, hz, q1, q2⟩ := inR_t.1 q
      rw [hdl] at hz
      have hr := h.rf
      unfold rightM at hr
      rw [hdl, rgt_snoc] at hr
      rcases List.mem_append.1 hz with hz | hz
      · have := hr.2.2.2 z hz
        omega
      · rw [List.mem_singleton] at hz
        subst hz
        omega
    · rename_i e
      refine ⟨by omega, by omega, fun k _ _ => by omega, fun q => ?_, fun q => by omega⟩
      rw [← h.free] at q
      obtain ⟨z, hz, q1, q2⟩ := inR_t.1 q
      have hr := h.rf
      unfold rightM at hr
      rw [hdl, rgt_snoc] at hr
      rw [hdl] at hz
      have l1 := hlast _ ((h.free _).1 (in_last hmem hm))
      rcases List.mem_append.1 hz with hz | hz
      · have := hr.2.2.2 z hz
        omega
      · rw [List.mem_singleton] at hz
        subst hz
        omega
  · rename_i hy
    rw [List.getLast?_eq_none_iff] at hy
    refine ⟨by omega, by omega, fun k _ _ => by omega, fun q => ?_, fun q => by omega⟩
    rw [← h.free, hy] at q
    simp [inR] at q
theorem PRel.take {n : Int} (hn : 1 ≤ n) :
    (∃ y, y ∈ p.free ∧ p.free.find? (takeB n) = some y ∧ n ≤ y.2 ∧ (tookM p.free n).2.2 = true ∧ (takeP p n).2 = (y.1, 0) ∧ (takeP p n).1.pages = p.pages ∧ PRel (takeP p n).1 (putW y.1 n (-2) w)) ∨
    (p.free.find? (takeB n) = none ∧ (tookM p.free n).2.2 = false ∧ n > p.limit - (p.pages - tailP p) ∧ takeP p n = (p, 0, 12)) ∨
    (p.free.find? (takeB n) = none ∧ (tookM p.free n).2.2 = false ∧ ¬ n > p.limit - (p.pages - tailP p) ∧ (takeP p n).2 = (p.pages - tailP p, 0) ∧ (takeP p n).1.pages = p.pages - tailP p + n ∧ (0 < tailP p → tailP p < n) ∧ PRel (takeP p n).1 (putW (p.pages - tailP p) n (-2) w)) := by
  have hc : cleanM p.free = p.free := clean_of h.rf
  have n0 : ¬ n < 1 := by omega
  cases hfd : p.free.find? (takeB n) with
  | some y =>
    left
    have hs := tookM_some (l := p.free) (n := n) (y := y) (by rw [hc]; exact hfd)
    obtain ⟨e0, e1, e2, e3, e4, e5, e6⟩ := hs
    rw [hc] at e0 e1 e2 e3
    have e7 : takeP p n = ({ p with free := dropM p.free (y.1, n) }, y.1, 0) := by
      unfold takeP
      rw [if_neg n0, e0, if_pos rfl]
    have my := mayM_iff.1 e4
    have hy1 := h.rg y.1 (by rw [(h.free _).1 (in_first e3 e4)]; decide)
    have hy2 := h.rg _ (by rw [(h.free _).1 (in_last e3 e4)]; decide)
    have ex : endM y = y.1 + y.2 := rfl
    have hin : ∀ k, y.1 ≤ k → k < y.1 + n → w k = -1 := fun k h1 h2 => (h.free k).1 (inR_t.2 ⟨y, e3, h1, by omega⟩)
    have hw : ∀ k, (y.1 ≤ k ∧ k < y.1 + n) → putW y.1 n (-2) w k = -2 := fun k q => by unfold putW; rw [if_pos q]
    have hw' : ∀ k, ¬ (y.1 ≤ k ∧ k < y.1 + n) → putW y.1 n (-2) w k = w k := fun k q => by unfold putW; rw [if_neg q]
    refine ⟨y, e3, rfl, e6, by rw [e0], by rw [e7], by rw [e7], ?_⟩
    rw [e7]
    refine ⟨h.lo, h.le, h.hi, e1, h.rh, fun k => ?_, h.key, fun z hz k => ?_, fun k hk => ?_, fun k hk => ?_, fun k => ?_⟩
    · show inR (dropM p.free (y.1, n)) k = true ↔ _
      rw [e2]
      by_cases q : y.1 ≤ k ∧ k < y.1 + n
      · rw [hw k q]
        simp [q.1, q.2]
      · rw [hw' k q, ← h.free]
        have : (decide (y.1 ≤ k) && decide (k < y.1 + n)) = false := by
          rw [Bool.and_eq_false_iff, decide_eq_false_iff_not, decide_eq_false_iff_not]
          omega
        rw [this]
        simp
    · rw [h.held z hz]
      have := h.key z hz
      by_cases q : y.1 ≤ k ∧ k < y.1 + n
      · rw [hw k q, hin k q.1 q.2]
        constructor <;> intro <;> omega
      · rw [hw' k q]
    · by_cases q : y.1 ≤ k ∧ k < y.1 + n
      · rw [hw k q] at hk; omega
      · rw [hw' k q] at hk ⊢; exact h.cov k hk
    · by_cases q : y.1 ≤ k ∧ k < y.1 + n
      · exact absurd (hw k q) hk
      · rw [hw' k q] at hk; exact h.rg k hk
    · by_cases q : y.1 ≤ k ∧ k < y.1 + n
      · rw [hw k q]; omega
      · rw [hw' k q]; exact h.ge k
  | none =>
    right
    have hs := tookM_none (l := p.free) (n := n) (by rw [hc]; exact hfd)
    obtain ⟨t0, t1, t2, t3, t4⟩ := h.tail
    by_cases hf : n > p.limit - (p.pages - tailP p)
    · left
      refine ⟨rfl, by rw [hs], hf, ?_⟩
      unfold takeP takeF'
      rw [if_neg n0, hs, if_neg (by simp), if_pos hf]
    · right
      have e7 : takeP p n = ({ p with free := if tailP p > 0 then p.free.dropLast else p.free, pages := p.pages - tailP p + n }, p.pages - tailP p, 0) := by
        unfold takeP takeF'
        rw [if_neg n0, hs, if_neg (by simp), if_neg hf]
      have tn : 0 < tailP p → tailP p < n := fun q => by
        obtain ⟨l, y, hl, hy, _⟩ := t4 q
        rw [List.find?_eq_none] at hfd
        have := hfd y (by rw [hl]; simp)
        unfold takeB at this
        rw [Bool.and_eq_true, decide_eq_true_eq, decide_eq_true_eq] at this
        omega
      refine ⟨rfl, by rw [hs], hf, by rw [e7], by rw [e7], tn, ?_⟩
      rw [e7]
      generalize hA : p.pages - tailP p = A at *
      have hw : ∀ k, (A ≤ k ∧ k < A + n) → putW A n (-2) w k = -2 := fun k q => by unfold putW; rw [if_pos q]
      have hw' : ∀ k, ¬ (A ≤ k ∧ k < A + n) → putW A n (-2) w k = w k := fun k q => by unfold putW; rw [if_neg q]
      have hfr : rightM (if tailP p > 0 then p.free.dropLast else p.free) = true ∧ ∀ k, inR (if tailP p > 0 then p.free.dropLast else p.free) k = true ↔ putW A n (-2) w k = -1 := by
        by_cases q : tailP p > 0
        · rw [if_pos q]
          obtain ⟨l, y, hl, hy, he⟩ := t4 q
          have hr := h.rf
          unfold rightM at hr
          rw [hl, rgt_snoc] at hr
          rw [hl, List.dropLast_concat]
          refine ⟨hr.1, fun k => ?_⟩
          have hk := h.free k
          rw [hl, inR_append, Bool.or_eq_true] at hk
          by_cases q' : A ≤ k ∧ k < A + n
          · rw [hw k q']
            constructor
            · intro e
              obtain ⟨z, hz, z1, z2⟩ := inR_t.1 e
              have := hr.2.2.2 z hz
              omega
            · intro e; omega
          · rw [hw' k q', ← hk]
            constructor
            · exact .inl
            · rintro (e | e)
              · exact e
              · exfalso
                rw [inR_cons, inR_nil, Bool.or_false, pinR_t] at e
                have ex : endM y = y.1 + y.2 := rfl
                have := tn q
                omega
        · rw [if_neg q]
          refine ⟨h.rf, fun k => ?_⟩
          by_cases q' : A ≤ k ∧ k < A + n
          · rw [hw k q']
            constructor
            · intro e
              have := h.rg k (by rw [(h.free k).1 e]; decide)
              omega
            · intro e; omega
          · rw [hw' k q']; exact h.free k
      have hold : ∀ k, A ≤ k → 0 ≤ w k → False := fun k h1 h2 => by
        have h3 := h.rg k (by omega)
        have := t2 k h1 h3.2
        omega
      refine ⟨by show 2 ≤ A + n; omega, by show A + n ≤ p.limit; omega, h.hi, hfr.1, h.rh, hfr.2, h.key, fun z hz k => ?_, fun k hk => ?_, fun k hk => ?_, fun k => ?_⟩
      · rw [h.held z hz]
        have := h.key z hz
        by_cases q : A ≤ k ∧ k < A + n
        · rw [hw k q]
          constructor
          · intro e; exact (hold k q.1 (by omega)).elim
          · intro e; omega
        · rw [hw' k q]
      · by_cases q : A ≤ k ∧ k < A + n
        · rw [hw k q] at hk; omega
        · rw [hw' k q] at hk ⊢; exact h.cov k hk
      · show 2 ≤ k ∧ k < A + n
        by_cases q : A ≤ k ∧ k < A + n
        · exact absurd (hw k q) hk
        · rw [hw' k q] at hk
          have h3 := h.rg k hk
          refine ⟨h3.1, ?_⟩
          by_cases q' : 0 < tailP p
          · have := tn q'; omega
          · omega
      · by_cases q : A ≤ k ∧ k < A + n
        · rw [hw k q]; omega
        · rw [hw' k q]; exact h.ge k
theorem PRel.grow {n : Int} (hn : 1 ≤ n) : (n > p.limit - p.pages ∧ growP p n = (p, 0, 12)) ∨ (¬ n > p.limit - p.pages ∧ growP p n = ({ p with pages := p.pages + n }, p.pages, 0) ∧ PRel { p with pages := p.pages + n } w) := by
  unfold growP
  rw [if_neg (by omega)]
  by_cases q : n > p.limit - p.pages
  · left
    rw [if_pos q]
    exact ⟨q, rfl⟩
  · right
    rw [if_neg q]
    have hlo := h.lo
    exact ⟨q, rfl, by show 2 ≤ p.pages + n; omega, by show p.pages + n ≤ p.limit; omega, h.hi, h.rf, h.rh, h.free, h.key, h.held, h.cov, fun k hk => by have := h.rg k hk; exact ⟨this.1, by show k < p.pages + n; omega⟩, h.ge⟩
end
def newW (f h : List RunM) (t : Int) (k : Int) : Int := if inR f k = true then -1 else if inR h k = true then t else -2
theorem mayS_t {l : List RunM} (h : mayS l = true) : rightM l = true ∧ ∀ k, inR l k = true → 2 ≤ k ∧ k < endsM l := by
  unfold mayS at h
  rw [Bool.and_eq_true, Bool.and_eq_true] at h
  obtain ⟨⟨h1, h2⟩, h3⟩ := h
  refine ⟨h1, fun k hk => ⟨?_, ?_⟩⟩
  · obtain ⟨x, hx, q1, q2⟩ := inR_t.1 hk
    cases l with
    | nil => cases hx
    | cons y l =>
      have h4 : 2 ≤ y.1 := by simpa [firstOk] using h3
      have hm := mayM_iff.1 ((right_iff.1 h1).1 y (by simp))
      unfold rightM at h1
      rw [rgt_cons] at h1
      rcases List.mem_cons.1 hx with rfl | hx
      · omega
      · have := rgt_lt h1.2.2 x hx
        have ex : endM y = y.1 + y.2 := rfl
        omega
  · have := endsM_is l
    rw [clean_of h1] at this
    exact this.1 k hk
theorem PRel.new {f h : List RunM} {t pages limit : Int} (ok : okNew f h t pages limit = true) : PRel (newP f h t pages limit) (newW f h t) ∧ HeldH (newP f h t pages limit).held [0] 1 := by
  unfold okNew rightS at ok
  simp only [Bool.and_eq_true, Bool.not_eq_true', decide_eq_true_eq, decide_eq_false_iff_not] at ok
  obtain ⟨⟨⟨⟨⟨⟨⟨a1, a2⟩, a3⟩, a4, a5⟩, a6⟩, a7⟩, a8⟩, a9⟩ := ok
  obtain ⟨f1, f2⟩ := mayS_t a1
  obtain ⟨h1, h2⟩ := mayS_t a2
  have dis : ∀ k, inR f k = true → inR h k = false := fun k q => by
    cases e : inR h k with
    | false => rfl
    | true =>
      have : meetM f h = true := meetM_iff.2 ⟨k, by rw [clean_of f1]; exact q, by rw [clean_of h1]; exact e⟩
      rw [a3] at this; cases this
  have hw : ∀ k, newW f h t k = -1 ↔ inR f k = true := fun k => by
    unfold newW
    split
    · rename_i q; simp [q]
    · rename_i q
      split
      · constructor
        · intro e; omega
        · intro e; exact absurd e q
      · constructor
        · intro e; omega
        · intro e; exact absurd e q
  refine ⟨⟨by show 2 ≤ pages; omega, by show pages ≤ limit; omega, by show limit ≤ 16384; omega, f1, ?_, fun k => (hw k).symm, ?_, ?_, fun k hk => ⟨(t, h), by simp [newP], ?_⟩, fun k hk => ?_, fun k => ?_⟩, ⟨rfl, by simp, by simp, by simp [newP], ?_⟩⟩
  · intro y hy
    simp [newP] at hy
    subst hy
    exact h1
  · intro y hy
    simp [newP] at hy
    subst hy
    show 0 ≤ t
    omega
  · intro y hy k
    simp [newP] at hy
    subst hy
    show inR h k = true ↔ newW f h t k = t
    unfold newW
    split
    · rename_i q
      rw [dis k q]
      constructor
      · intro e; cases e
      · intro e; omega
    · split
      · rename_i q; simp [q]
      · rename_i q
        constructor
        · intro e; exact absurd e q
        · intro e; omega
  · unfold newW at hk ⊢
    split at hk
    · omega
    · rename_i q
      rw [if_neg q]
      split at hk
      · rename_i q'; rw [if_pos q']
      · omega
  · show 2 ≤ k ∧ k < pages
    unfold newW at hk
    split at hk
    · rename_i q; have := f2 k q; omega
    · split at hk
      · rename_i q; have := h2 k q; omega
      · exact absurd rfl hk
  · unfold newW
    split
    · omega
    · split <;> omega
  · intro x hx
    simp [newP] at hx
    subst hx
    exact h1
end Go.VI

set_option linter.unusedVariables false
set_option linter.unusedSimpArgs false
set_option maxRecDepth 100000
namespace Go.VI
attribute [local congr] AW_congr OW_congr DW_congr NW_congr VW_congr GW_congr PW_congr KW_congr ite_congr' GV_congr CV_congr KF_congr
theorem take_held (p : PoolM) (n : Int) : (takeP p n).1.held = p.held := by
  unfold takeP takeF'
  split
  · rfl
  · split
    · rfl
    · split <;> rfl
theorem same_refl (l : List RunM) : sameM l l = true := by simp [sameM]
end Go.VI

set_option linter.unusedVariables false
set_option linter.unusedSimpArgs false
set_option maxRecDepth 100000
namespace Go.VI
attribute [local congr] AW_congr OW_congr DW_congr NW_congr VW_congr GW_congr PW_congr KW_congr ite_congr' GV_congr CV_congr KF_congr
noncomputable def ftB17 : FT
  | 17 => some (.go true 137 r17 c17)
  | k => ftB k
theorem ftB17_sub : Sub ftB ftB17 := by
  intro k d h
  unfold ftB17
  split
  · exact absurd h (by unfold ftB; simp)
  · exact h
theorem mayS_of {l : List RunM} {n : Int} (h1 : rightM l = true) (h2 : ∀ k, inR l k = true → 2 ≤ k ∧ k < n) (h0 : 0 ≤ n) (hn : n ≤ 16384) : mayS l = true ∧ endsM l ≤ n := by
  have he : endsM l ≤ n := by
    rcases (endsM_is l).2 with ⟨e, _⟩ | ⟨_, e⟩
    · omega
    · rw [clean_of h1] at e
      have := h2 _ e
      omega
  refine ⟨?_, he⟩
  unfold mayS
  rw [h1, decide_eq_true (show endsM l ≤ 16384 by omega)]
  cases l with
  | nil => rfl
  | cons x l =>
    have := h2 x.1 (in_first (by simp) ((right_iff.1 h1).1 x (by simp)))
    simp [firstOk, this.1]
theorem countM_16 {l : List RunM} : 0 ≤ countM l ∧ countM l ≤ 32768 := by
  rw [countM_eq, pages_upto (clean_lt l)]
  have := upto_len_le (fun k => inR (cleanM l) (k : Int)) 32768
  omega
theorem counts_apart {a b : List RunM} (h : meetM a b = false) : countM a + countM b = countM (unionM a b) := by
  have h1 := counts a b
  have h2 := meet_counts a b
  rw [h] at h2
  have h3 := of_decide_eq_false h2.symm
  omega
section
variable {p : PoolM} {w : Int → Int} (h : PRel p w)
include h
theorem PRel.state_ok {t : Int} (ht : 0 ≤ t) : okNew (unionM p.free (unionSel (fun k => k != t) p.held)) ((getO t p.held).getD []) t p.pages p.limit = true ∧
    meetM (unionM p.free (unionSel (fun k => k != t) p.held)) ((getO t p.held).getD []) = false ∧
    unionM (unionM p.free (unionSel (fun k => k != t) p.held)) ((getO t p.held).getD []) = unionM p.free (unionSel (fun _ => true) p.held) ∧
    meetM p.free (unionSel (fun _ => true) p.held) = false := by
  obtain ⟨s1, s2⟩ := h.state t
  obtain ⟨g1, g2⟩ := h.get ht
  have hlo := h.lo
  have hle := h.le
  have hhi := h.hi
  have hu := unionSel_ok (fun _ => true) p.held
  have hm1 := mayS_of (n := p.pages) s1 (fun k hk => h.rg k (by rw [s2] at hk; omega)) (by omega) (by omega)
  have hm2 := mayS_of (n := p.pages) g1 (fun k hk => h.rg k (by rw [g2] at hk; omega)) (by omega) (by omega)
  have no : ∀ {x : Bool}, ¬ x = true → x = false := fun {x} q => by cases x <;> simp_all
  have m1 : meetM (unionM p.free (unionSel (fun k => k != t) p.held)) ((getO t p.held).getD []) = false := no fun q => by
    rw [meetM_iff, clean_of s1, clean_of g1] at q
    obtain ⟨k, q1, q2⟩ := q
    rw [s2] at q1
    rw [g2] at q2
    omega
  refine ⟨?_, m1, ?_, no fun q => ?_⟩
  · unfold okNew rightS
    rw [hm1.1, hm2.1, m1, decide_eq_true hm1.2, decide_eq_true hm2.2, decide_eq_false (show ¬ p.pages < 2 by omega), decide_eq_false (show ¬ p.pages > p.limit by omega), decide_eq_false (show ¬ p.limit > 16384 by omega), decide_eq_false (show ¬ t < 0 by omega)]
    rfl
  · refine right_ext (unionM_ok _ _).1 (unionM_ok _ _).1 fun k => beq_iff' ?_
    rw [(unionM_ok _ _).2, (unionM_ok p.free _).2, Bool.or_eq_true, Bool.or_eq_true, clean_of s1, clean_of g1, clean_of h.rf, clean_of hu.1, s2, g2, h.free, h.all]
    omega
  · rw [meetM_iff, clean_of h.rf, clean_of hu.1] at q
    obtain ⟨k, q1, q2⟩ := q
    rw [h.free] at q1
    rw [h.all] at q2
    omega
theorem PRel.takeX (n : Int) : (∃ w', PRel (takeP p n).1 w') ∧ (takeP p n).1.limit = p.limit := by
  refine ⟨?_, ?_⟩
  · by_cases hn : n < 1
    · refine ⟨w, ?_⟩
      unfold takeP
      rw [if_pos hn]
      exact h
    · rcases h.take (n := n) (by omega) with ⟨y, _, _, _, _, _, _, e⟩ | ⟨_, _, _, e⟩ | ⟨_, _, _, _, _, _, e⟩
      · exact ⟨_, e⟩
      · rw [e]; exact ⟨_, h⟩
      · exact ⟨_, e⟩
  · unfold takeP takeF'
    split
    · rfl
    · split
      · rfl
      · split <;> rfl
theorem PRel.growX (n : Int) : PRel (growP p n).1 w ∧ (growP p n).1.limit = p.limit ∧ (growP p n).1.held = p.held := by
  by_cases hn : n < 1
  · unfold growP
    rw [if_pos hn]
    exact ⟨h, rfl, rfl⟩
  · rcases h.grow (n := n) (by omega) with ⟨_, e⟩ | ⟨_, e, r⟩
    · rw [e]; exact ⟨h, rfl, rfl⟩
    · rw [e]; exact ⟨r, rfl, rfl⟩
theorem PRel.giveX (hn : (p.held.map (·.1)).Nodup) (t : Int) (x : RunM) : (∃ w', PRel (giveP p t x) w') ∧ (giveP p t x).limit = p.limit := by
  by_cases e : giveE p t x = 0
  · refine ⟨⟨_, (h.give hn e).2.2.2.2.2⟩, ?_⟩
    unfold giveP
    rw [if_pos e]
  · have : giveP p t x = p := by unfold giveP; rw [if_neg e]
    rw [this]
    exact ⟨⟨w, h⟩, rfl⟩
end
def sqA : ACode → ACode
  | .seq a _ => a
  | c => c
def sqB : ACode → ACode
  | .seq _ b => b
  | .block _ c => c
  | c => c
def M17 : ACode := sqB (sqA (sqB (sqB c17L0)))
def c17T : ACode := sqB (sqB M17)
def c17D : ACode := sqB (sqB (sqA (sqB M17)))
theorem c17L0_eq : c17L0 = (.seq (.region [⟨(some 42), (.bin .lss 3 (.tmp 41) (.tmp 40)), none⟩] false []) (.seq (.cond (.tmp 42) .skip (.exit 0)) (.seq (.block 1 (.seq (.region [⟨(some 43), (.iaddr none 5 (.tmp 39) (.tmp 41)), none⟩, ⟨(some 44), (.load true 5 (.tmp 43)), none⟩, ⟨(some 10), (.alloc [(.sc (.int .i64 0)), (.sc (.int .i64 0)), (.sc (.int .i64 0)), (.sc (.int .i64 0)), (.sc (.int .i64 0))]), none⟩, ⟨none, (.store 5 (.tmp 10) (.tmp 44)), none⟩] false []) (.seq (.seq (.region [⟨(some 45), (.faddr 0 (.tmp 10)), none⟩, ⟨(some 46), (.load false 1 (.tmp 45)), none⟩] false []) (.block 2 c17D)) c17T)))
  (.region [⟨(some 135), (.bin .add 3 (.tmp 41) (.const (.int .i64 1))), none⟩, ⟨(some 41), (.mov (.tmp 135)), none⟩] false [])))) := rfl
section
variable {K : Heap} {pid mid bid j : Nat} {p : PoolM} {w : Int → Int} {bs : List Nat} {ck : Nat} (hp : PoolH K pid mid p bs ck) (hr : PRel p w) {o : OpM} (hj : K.get j = some (.box false (pOpC o))) {f : Nat → AV}
  (h7 : f 7 = .ptr pid 0 0) (h10 : f 10 = .ptr j 0 0) {Q : AExit → Env → Heap → Prop}
include hp hr hj h7 h10
theorem d17 (h46 : f 46 = int o.kind) (hn : ∀ f' K' p' w' bs' ck', PoolH K' pid mid p' bs' ck' → PRel p' w' → p'.limit = p.limit → PFrame pid mid K K' →
      f' 4 = f 4 → f' 7 = f 7 → f' 10 = f 10 → f' 39 = f 39 → f' 40 = f 40 → f' 41 = f 41 → Q .normal (mkE 137 f') (hx K' [])) : AW ftB c17D (mkE 137 f) (hx K []) Q := by
  have lid := Heap.get_lt hp.box
  have y0 := fun L => get_old hj L
  simp only [pOpC, int] at y0
  unfold c17D M17 c17L0
  simp only [sqA, sqB]
  cases e0 : (o.kind == 0) with
  | true =>
    obtain ⟨⟨w', r⟩, e⟩ := hr.takeX o.n
    have h' : PoolH (K.set pid (boxP (takeP p o.n).1 mid)) pid mid (takeP p o.n).1 bs ck := pool_put hp (take_held _ _) r.rf
    have k61 : ∀ Q, KW ftB (.fn (.func 61) [] []) [.ptr pid 0 0, int o.n] (hx K []) Q ↔ Q (.tup [int (takeP p o.n).2.1, int (takeP p o.n).2.2]) (hx (K.set pid (boxP (takeP p o.n).1 mid)) []) := fun Q => by rw [hx_nil, hx_nil]; exact o61 hp hr.ok _
    simp only [int] at k61
    simp only [↓vp, vq0, vq1, vq2, vq3, vr0, vr1, vr2, vr3, vr4, vr5, vr6, vr7, vr8, vr9, vr10, vr11, vr12, vr13, vr14, vr15, vr16, vr17, vr18, vr19, vr20, vr21, vr22, vr23, vr24, vr25, vr26, vr27, vr28, vr29, vr30, vr31, vr32, vr33, vr34, opS, fpS, extO, okP, pack, nAl, allocA, shId, leaves, fillA, fillR, splice, Nat.reduceLT, Nat.reduceEqDiff, Nat.reduceLeDiff, Nat.reduceAdd, Nat.reduceSub, Nat.reduceMul, Int.reduceBEq, Int.reduceBNe, Int.reduceLT, Int.reduceLE, Int.reduceEq, reduceIte, reduceCtorEq, da, int, boolA, dr, h7, h10, h46, e0, y0, k61]
    refine hn _ _ _ _ _ _ h' r e (by rw [← hx_nil (K.set _ _)]; exact frame_setp K _ []) ?_ ?_ ?_ ?_ ?_ ?_ <;> simp only [↓vp, vq0, vq1, vq2, vq3, vr0, vr1, vr2, vr3, vr4, vr5, vr6, vr7, vr8, vr9, vr10, vr11, vr12, vr13, vr14, vr15, vr16, vr17, vr18, vr19, vr20, vr21, vr22, vr23, vr24, vr25, vr26, vr27, vr28, vr29, vr30, vr31, vr32, vr33, vr34, opS, fpS, extO, okP, pack, nAl, allocA, shId, leaves, fillA, fillR, splice, Nat.reduceLT, Nat.reduceEqDiff, Nat.reduceLeDiff, Nat.reduceAdd, Nat.reduceSub, Nat.reduceMul, Int.reduceBEq, Int.reduceBNe, Int.reduceLT, Int.reduceLE, Int.reduceEq, reduceIte, reduceCtorEq, da, int, boolA, h7, h10]
  | false =>
  cases e4 : (o.kind == 4) with
  | true =>
    obtain ⟨r, e, e'⟩ := hr.growX o.n
    have h' : PoolH (K.set pid (boxP (growP p o.n).1 mid)) pid mid (growP p o.n).1 bs ck := pool_put hp e' r.rf
    have k72 : ∀ Q, KW ftB (.fn (.func 72) [] []) [.ptr pid 0 0, int o.n] (hx K []) Q ↔ Q (.tup [int (growP p o.n).2.1, int (growP p o.n).2.2]) (hx (K.set pid (boxP (growP p o.n).1 mid)) []) := fun Q => by rw [hx_nil, hx_nil]; exact o72 hp hr.ok
    simp only [int] at k72
    simp only [↓vp, vq0, vq1, vq2, vq3, vr0, vr1, vr2, vr3, vr4, vr5, vr6, vr7, vr8, vr9, vr10, vr11, vr12, vr13, vr14, vr15, vr16, vr17, vr18, vr19, vr20, vr21, vr22, vr23, vr24, vr25, vr26, vr27, vr28, vr29, vr30, vr31, vr32, vr33, vr34, opS, fpS, extO, okP, pack, nAl, allocA, shId, leaves, fillA, fillR, splice, Nat.reduceLT, Nat.reduceEqDiff, Nat.reduceLeDiff, Nat.reduceAdd, Nat.reduceSub, Nat.reduceMul, Int.reduceBEq, Int.reduceBNe, Int.reduceLT, Int.reduceLE, Int.reduceEq, reduceIte, reduceCtorEq, da, int, boolA, dr, h7, h10, h46, e0, e4, y0, k72]
    refine hn _ _ _ _ _ _ h' r e (by rw [← hx_nil (K.set _ _)]; exact frame_setp K _ []) ?_ ?_ ?_ ?_ ?_ ?_ <;> simp only [↓vp, vq0, vq1, vq2, vq3, vr0, vr1, vr2, vr3, vr4, vr5, vr6, vr7, vr8, vr9, vr10, vr11, vr12, vr13, vr14, vr15, vr16, vr17, vr18, vr19, vr20, vr21, vr22, vr23, vr24, vr25, vr26, vr27, vr28, vr29, vr30, vr31, vr32, vr33, vr34, opS, fpS, extO, okP, pack, nAl, allocA, shId, leaves, fillA, fillR, splice, Nat.reduceLT, Nat.reduceEqDiff, Nat.reduceLeDiff, Nat.reduceAdd, Nat.reduceSub, Nat.reduceMul, Int.reduceBEq, Int.reduceBNe, Int.reduceLT, Int.reduceLE, Int.reduceEq, reduceIte, reduceCtorEq, da, int, boolA, h7, h10]
  | false =>
  cases e1 : (o.kind == 1) with
  | true =>
    obtain ⟨⟨w', r⟩, e⟩ := hr.giveX hp.hd.keys o.txid (o.at', o.len)
    simp only [↓vp, vq0, vq1, vq2, vq3, vr0, vr1, vr2, vr3, vr4, vr5, vr6, vr7, vr8, vr9, vr10, vr11, vr12, vr13, vr14, vr15, vr16, vr17, vr18, vr19, vr20, vr21, vr22, vr23, vr24, vr25, vr26, vr27, vr28, vr29, vr30, vr31, vr32, vr33, vr34, opS, fpS, extO, okP, pack, nAl, allocA, shId, leaves, fillA, fillR, splice, Nat.reduceLT, Nat.reduceEqDiff, Nat.reduceLeDiff, Nat.reduceAdd, Nat.reduceSub, Nat.reduceMul, Int.reduceBEq, Int.reduceBNe, Int.reduceLT, Int.reduceLE, Int.reduceEq, reduceIte, reduceCtorEq, da, int, boolA, dr, h7, h10, h46, e0, e4, e1, y0]
    rw [hx_nil]
    refine o64 hp (x := (o.at', o.len)) fun K' b' c' h' f' => ?_
    rw [← hx_nil K']
    simp only [↓vp, vq0, vq1, vq2, vq3, vr0, vr1, vr2, vr3, vr4, vr5, vr6, vr7, vr8, vr9, vr10, vr11, vr12, vr13, vr14, vr15, vr16, vr17, vr18, vr19, vr20, vr21, vr22, vr23, vr24, vr25, vr26, vr27, vr28, vr29, vr30, vr31, vr32, vr33, vr34, opS, fpS, extO, okP, pack, nAl, allocA, shId, leaves, fillA, fillR, splice, Nat.reduceLT, Nat.reduceEqDiff, Nat.reduceLeDiff, Nat.reduceAdd, Nat.reduceSub, Nat.reduceMul, Int.reduceBEq, Int.reduceBNe, Int.reduceLT, Int.reduceLE, Int.reduceEq, reduceIte, reduceCtorEq, da, int, boolA, dr]
    refine hn _ _ _ _ _ _ h' r e f' ?_ ?_ ?_ ?_ ?_ ?_ <;> simp only [↓vp, vq0, vq1, vq2, vq3, vr0, vr1, vr2, vr3, vr4, vr5, vr6, vr7, vr8, vr9, vr10, vr11, vr12, vr13, vr14, vr15, vr16, vr17, vr18, vr19, vr20, vr21, vr22, vr23, vr24, vr25, vr26, vr27, vr28, vr29, vr30, vr31, vr32, vr33, vr34, opS, fpS, extO, okP, pack, nAl, allocA, shId, leaves, fillA, fillR, splice, Nat.reduceLT, Nat.reduceEqDiff, Nat.reduceLeDiff, Nat.reduceAdd, Nat.reduceSub, Nat.reduceMul, Int.reduceBEq, Int.reduceBNe, Int.reduceLT, Int.reduceLE, Int.reduceEq, reduceIte, reduceCtorEq, da, int, boolA, h7, h10]
  | false =>
  cases e2 : (o.kind == 2) with
  | true =>
    have r := hr.settle o.txid o.n
    simp only [↓vp, vq0, vq1, vq2, vq3, vr0, vr1, vr2, vr3, vr4, vr5, vr6, vr7, vr8, vr9, vr10, vr11, vr12, vr13, vr14, vr15, vr16, vr17, vr18, vr19, vr20, vr21, vr22, vr23, vr24, vr25, vr26, vr27, vr28, vr29, vr30, vr31, vr32, vr33, vr34, opS, fpS, extO, okP, pack, nAl, allocA, shId, leaves, fillA, fillR, splice, Nat.reduceLT, Nat.reduceEqDiff, Nat.reduceLeDiff, Nat.reduceAdd, Nat.reduceSub, Nat.reduceMul, Int.reduceBEq, Int.reduceBNe, Int.reduceLT, Int.reduceLE, Int.reduceEq, reduceIte, reduceCtorEq, da, int, boolA, dr, h7, h10, h46, e0, e4, e1, e2, y0]
    rw [hx_nil]
    refine o65 hp fun K' b' h' f' => ?_
    rw [← hx_nil K']
    simp only [↓vp, vq0, vq1, vq2, vq3, vr0, vr1, vr2, vr3, vr4, vr5, vr6, vr7, vr8, vr9, vr10, vr11, vr12, vr13, vr14, vr15, vr16, vr17, vr18, vr19, vr20, vr21, vr22, vr23, vr24, vr25, vr26, vr27, vr28, vr29, vr30, vr31, vr32, vr33, vr34, opS, fpS, extO, okP, pack, nAl, allocA, shId, leaves, fillA, fillR, splice, Nat.reduceLT, Nat.reduceEqDiff, Nat.reduceLeDiff, Nat.reduceAdd, Nat.reduceSub, Nat.reduceMul, Int.reduceBEq, Int.reduceBNe, Int.reduceLT, Int.reduceLE, Int.reduceEq, reduceIte, reduceCtorEq, da, int, boolA, dr]
    refine hn _ _ _ _ _ _ h' r rfl f' ?_ ?_ ?_ ?_ ?_ ?_ <;> simp only [↓vp, vq0, vq1, vq2, vq3, vr0, vr1, vr2, vr3, vr4, vr5, vr6, vr7, vr8, vr9, vr10, vr11, vr12, vr13, vr14, vr15, vr16, vr17, vr18, vr19, vr20, vr21, vr22, vr23, vr24, vr25, vr26, vr27, vr28, vr29, vr30, vr31, vr32, vr33, vr34, opS, fpS, extO, okP, pack, nAl, allocA, shId, leaves, fillA, fillR, splice, Nat.reduceLT, Nat.reduceEqDiff, Nat.reduceLeDiff, Nat.reduceAdd, Nat.reduceSub, Nat.reduceMul, Int.reduceBEq, Int.reduceBNe, Int.reduceLT, Int.reduceLE, Int.reduceEq, reduceIte, reduceCtorEq, da, int, boolA, h7, h10]
  | false =>
    simp only [↓vp, vq0, vq1, vq2, vq3, vr0, vr1, vr2, vr3, vr4, vr5, vr6, vr7, vr8, vr9, vr10, vr11, vr12, vr13, vr14, vr15, vr16, vr17, vr18, vr19, vr20, vr21, vr22, vr23, vr24, vr25, vr26, vr27, vr28, vr29, vr30, vr31, vr32, vr33, vr34, opS, fpS, extO, okP, pack, nAl, allocA, shId, leaves, fillA, fillR, splice, Nat.reduceLT, Nat.reduceEqDiff, Nat.reduceLeDiff, Nat.reduceAdd, Nat.reduceSub, Nat.reduceMul, Int.reduceBEq, Int.reduceBNe, Int.reduceLT, Int.reduceLE, Int.reduceEq, reduceIte, reduceCtorEq, da, int, boolA, dr, h7, h10, h46, e0, e4, e1, e2, y0]
    refine hn _ _ _ _ _ _ hp hr rfl ⟨Nat.le_refl _, fun _ _ _ _ => rfl⟩ ?_ ?_ ?_ ?_ ?_ ?_ <;> simp only [↓vp, vq0, vq1, vq2, vq3, vr0, vr1, vr2, vr3, vr4, vr5, vr6, vr7, vr8, vr9, vr10, vr11, vr12, vr13, vr14, vr15, vr16, vr17, vr18, vr19, vr20, vr21, vr22, vr23, vr24, vr25, vr26, vr27, vr28, vr29, vr30, vr31, vr32, vr33, vr34, opS, fpS, extO, okP, pack, nAl, allocA, shId, leaves, fillA, fillR, splice, Nat.reduceLT, Nat.reduceEqDiff, Nat.reduceLeDiff, Nat.reduceAdd, Nat.reduceSub, Nat.reduceMul, Int.reduceBEq, Int.reduceBNe, Int.reduceLT, Int.reduceLE, Int.reduceEq, reduceIte, reduceCtorEq, da, int, boolA, h7, h10]
theorem t17 {a b : Int} (hb : K.get bid = some (.box false [int a, int b, int p.limit])) (h4 : f 4 = .ptr bid 0 0)
    (hn : ∀ x f' K', x = .exit 1 ∨ x = .normal → PoolH K' pid mid p bs ck → K'.get bid = some (.box false [int a, int b, int p.limit]) →
      f' 4 = f 4 → f' 7 = f 7 → f' 39 = f 39 → f' 40 = f 40 → f' 41 = f 41 → Q x (mkE 137 f') (hx K' [])) : AW ftB c17T (mkE 137 f) (hx K []) Q := by
  have lid := Heap.get_lt hp.box
  have y0 := fun L => get_old hj L
  have y1 := fun L => get_old hb L
  simp only [pOpC, int] at y0 y1
  unfold c17T M17 c17L0
  simp only [sqA, sqB]
  by_cases e0 : o.txid < 0
  · simp only [↓vp, vq0, vq1, vq2, vq3, vr0, vr1, vr2, vr3, vr4, vr5, vr6, vr7, vr8, vr9, vr10, vr11, vr12, vr13, vr14, vr15, vr16, vr17, vr18, vr19, vr20, vr21, vr22, vr23, vr24, vr25, vr26, vr27, vr28, vr29, vr30, vr31, vr32, vr33, vr34, opS, fpS, extO, okP, pack, nAl, allocA, shId, leaves, fillA, fillR, splice, Nat.reduceLT, Nat.reduceEqDiff, Nat.reduceLeDiff, Nat.reduceAdd, Nat.reduceSub, Nat.reduceMul, Int.reduceBEq, Int.reduceBNe, Int.reduceLT, Int.reduceLE, Int.reduceEq, reduceIte, reduceCtorEq, da, int, boolA, dr, h4, h7, h10, y0, eq_true e0]
    refine hn _ _ _ (.inl rfl) hp hb ?_ ?_ ?_ ?_ ?_ <;> simp only [↓vp, vq0, vq1, vq2, vq3, vr0, vr1, vr2, vr3, vr4, vr5, vr6, vr7, vr8, vr9, vr10, vr11, vr12, vr13, vr14, vr15, vr16, vr17, vr18, vr19, vr20, vr21, vr22, vr23, vr24, vr25, vr26, vr27, vr28, vr29, vr30, vr31, vr32, vr33, vr34, opS, fpS, extO, okP, pack, nAl, allocA, shId, leaves, fillA, fillR, splice, Nat.reduceLT, Nat.reduceEqDiff, Nat.reduceLeDiff, Nat.reduceAdd, Nat.reduceSub, Nat.reduceMul, Int.reduceBEq, Int.reduceBNe, Int.reduceLT, Int.reduceLE, Int.reduceEq, reduceIte, reduceCtorEq, da, int, boolA, h4, h7]
  have d0 : (o.txid < 0) = False := eq_false e0
  obtain ⟨ok, m1, u1, m2⟩ := hr.state_ok (t := o.txid) (by omega)
  have g1 := (hr.get (t := o.txid) (by omega)).1
  have s1 := (hr.state o.txid).1
  have uT := (unionSel_ok (fun _ => true) p.held).1
  have lF := right_len s1
  have lG := right_len g1
  have lf := right_len hr.rf
  have lh := right_len uT
  have k74 := fun L Q => @o74 (hx K L) pid mid p bs ck (pool_hx hp L) o.txid Q
  have k59 := fun L Q => @o59 (hx K L) pid mid p bs ck (pool_hx hp L) Q
  have c1 := counts_apart m1
  have c2 := counts_apart m2
  have hnP := PRel.new ok
  generalize hF : unionM p.free (unionSel (fun k => k != o.txid) p.held) = F at *
  generalize hG : (getO o.txid p.held).getD [] = G at *
  generalize hU : unionSel (fun _ => true) p.held = U at *
  have k57 : ∀ L Q, KW ftB (.fn (.func 57) [] []) [.agg [encR F, encR G], int o.txid, int p.pages, int p.limit] (hx K L) Q ↔ _ := fun L Q => KW_of (by
    have s := @s57 (hx K L) F G o.txid p.pages p.limit (by omega) (by omega)
    rw [if_pos ok] at s
    exact s)
  have n1 : ∀ i, isnilA 1 (.ptr i 0 0) = some false := fun _ => rfl
  have i2 : ∀ H j, iaddrA H (some 3) 1 (.ptr j 0 0) 2 = some (.ptr j 0 2) := fun _ _ => rfl
  have xf : ∀ q, exFQ (none : FP).isSome q = q := fun q => by cases q <;> rfl
  have v59 : ∀ args, pureV ftB (.fn (.func 59) [] []) args = none := fun _ => rfl
  have v74 : ∀ args, pureV ftB (.fn (.func 74) [] []) args = none := fun _ => rfl
  have sJ : ∀ L M, sameAt (hx K L) (hx K M) [j] = true := fun L M => by rw [sameAt1, get_old hj, get_old hj]
  have sB : ∀ L M, sameAt (hx K L) (hx K M) [bid] = true := fun L M => by rw [sameAt1, get_old hb, get_old hb]
  have v59t : ∀ args, pureV ftB (.tup [.fn (.func 59) [] []]) args = none := fun _ => rfl
  have v74t : ∀ args, pureV ftB (.tup [.fn (.func 74) [] []]) args = none := fun _ => rfl
  simp only [int] at k74 k59 k57
  simp only [↓vp, vq0, vq1, vq2, vq3, vr0, vr1, vr2, vr3, vr4, vr5, vr6, vr7, vr8, vr9, vr10, vr11, vr12, vr13, vr14, vr15, vr16, vr17, vr18, vr19, vr20, vr21, vr22, vr23, vr24, vr25, vr26, vr27, vr28, vr29, vr30, vr31, vr32, vr33, vr34, opS, fpS, extO, okP, pack, nAl, allocA, shId, leaves, fillA, fillR, splice, Nat.reduceLT, Nat.reduceEqDiff, Nat.reduceLeDiff, Nat.reduceAdd, Nat.reduceSub, Nat.reduceMul, Int.reduceBEq, Int.reduceBNe, Int.reduceLT, Int.reduceLE, Int.reduceEq, reduceIte, reduceCtorEq, da, int, boolA, dr, h4, h7, h10, y0, y1, d0, k74, k59, k57, n1, i2, xf, v59, v74, v59t, v74t, sJ, sB, mkFQ_n, compat_al, compat_la, hx_hx]
  have q2 : PoolH (hx K [.box false [.sc (.int .i64 o.txid)], .box false [encR F, encR G], .dead, .box false [encR F, encR G], .mpb (some .i64) [entC (o.txid, G)] [0] 1, boxP (newP F G o.txid p.pages p.limit) (K.next + 4)]) (K.next + 5) (K.next + 4) (newP F G o.txid p.pages p.limit) [0] 1 :=
    ⟨hx_get _ _ 5, hx_get _ _ 4, hnP.2, hnP.1.rf⟩
  have p2 := pool_hx hp [.box false [.sc (.int .i64 o.txid)], .box false [encR F, encR G], .dead, .box false [encR F, encR G], .mpb (some .i64) [entC (o.txid, G)] [0] 1, boxP (newP F G o.txid p.pages p.limit) (K.next + 4)]
  have b2 := get_old hb [.box false [.sc (.int .i64 o.txid)], .box false [encR F, encR G], .dead, .box false [encR F, encR G], .mpb (some .i64) [entC (o.txid, G)] [0] 1, boxP (newP F G o.txid p.pages p.limit) (K.next + 4)]
  generalize hx K [.box false [.sc (.int .i64 o.txid)], .box false [encR F, encR G], .dead, .box false [encR F, encR G], .mpb (some .i64) [entC (o.txid, G)] [0] 1, boxP (newP F G o.txid p.pages p.limit) (K.next + 4)] = K2 at *
  generalize K.next + 5 = qid at *
  generalize K.next + 4 = qm at *
  rw [← hx_nil K2]
  have k60p := fun L Q => @o60 (hx K2 L) pid mid p bs ck (pool_hx p2 L) Q
  have k60q : ∀ L Q, KW ftB (.fn (.func 60) [] []) [.ptr qid 0 0] (hx K2 L) Q ↔ Q (encR F) (hx K2 L) := fun L Q => @o60 (hx K2 L) qid qm _ _ _ (pool_hx q2 L) Q
  have k63p := fun L Q => @o63 (hx K2 L) pid mid p bs ck (pool_hx p2 L) Q
  have k63q : ∀ L Q, KW ftB (.fn (.func 63) [] []) [.ptr qid 0 0] (hx K2 L) Q ↔ Q (encR (unionSel (fun _ => true) [(o.txid, G)])) (hx (hx K2 L) [.dead]) := fun L Q => @o63 (hx K2 L) qid qm _ _ _ (pool_hx q2 L) Q
  rw [show unionSel (fun _ => true) [(o.txid, G)] = G from by show unionM [] G = G; exact union_l g1] at k63q
  rw [hU] at k63p
  have k42a := fun H Q => @kB42 H Q F (by omega)
  have k42b := fun H Q => @kB42 H Q G (by omega)
  have k42c := fun H Q => @kB42 H Q p.free (by omega)
  have k42d := fun H Q => @kB42 H Q U (by omega)
  have k52a := fun H Q => @kB52 H Q F G (by omega) (by omega)
  have k52b := fun H Q => @kB52 H Q p.free U (by omega) (by omega)
  rw [u1] at k52a
  have lu := right_len (unionM_ok p.free U).1
  have k62 := fun H Q => @KW_of ftB _ _ _ Q _ _ (s62 (unionM p.free U) (by omega) H)
  have k45 := fun H Q => @kB45 H Q (unionM p.free U) (unionM p.free U) (by omega)
  have k40 := fun H Q => @kB40 H Q G (by omega)
  rw [same_refl] at k45
  rw [g1] at k40
  have w1 : IntKind.i64.wrap (countM F + countM G) = countM (unionM p.free U) := by
    have := countM_16 (l := unionM F G)
    rw [c1, ← u1]
    exact wrap_i64 (by omega)
  have w2 : IntKind.i64.wrap (countM p.free + countM U) = countM (unionM p.free U) := by
    have := countM_16 (l := unionM p.free U)
    rw [c2]
    exact wrap_i64 (by omega)
  have c3 : (countM (unionM p.free U) != countM (unionM p.free U)) = false := by simp
  simp only [int, boolA] at k60p k60q k63p k63q k42a k42b k42c k42d k52a k52b k62 k45 k40
  simp only [↓vp, vq0, vq1, vq2, vq3, vr0, vr1, vr2, vr3, vr4, vr5, vr6, vr7, vr8, vr9, vr10, vr11, vr12, vr13, vr14, vr15, vr16, vr17, vr18, vr19, vr20, vr21, vr22, vr23, vr24, vr25, vr26, vr27, vr28, vr29, vr30, vr31, vr32, vr33, vr34, opS, fpS, extO, okP, pack, nAl, allocA, shId, leaves, fillA, fillR, splice, Nat.reduceLT, Nat.reduceEqDiff, Nat.reduceLeDiff, Nat.reduceAdd, Nat.reduceSub, Nat.reduceMul, Int.reduceBEq, Int.reduceBNe, Int.reduceLT, Int.reduceLE, Int.reduceEq, reduceIte, reduceCtorEq, da, int, boolA, dr, k60p, k60q, k63p, k63q, k42a, k42b, k42c, k42d, k52a, k52b, k62, k45, k40, w1, w2, c3, h4, h7, h10, hx_hx]
  rw [← hx_nil (hx K2 _)]
  refine hn _ _ _ (.inr rfl) (pool_hx p2 _) (get_old b2 _) ?_ ?_ ?_ ?_ ?_ <;> simp only [↓vp, vq0, vq1, vq2, vq3, vr0, vr1, vr2, vr3, vr4, vr5, vr6, vr7, vr8, vr9, vr10, vr11, vr12, vr13, vr14, vr15, vr16, vr17, vr18, vr19, vr20, vr21, vr22, vr23, vr24, vr25, vr26, vr27, vr28, vr29, vr30, vr31, vr32, vr33, vr34, opS, fpS, extO, okP, pack, nAl, allocA, shId, leaves, fillA, fillR, splice, Nat.reduceLT, Nat.reduceEqDiff, Nat.reduceLeDiff, Nat.reduceAdd, Nat.reduceSub, Nat.reduceMul, Int.reduceBEq, Int.reduceBNe, Int.reduceLT, Int.reduceLE, Int.reduceEq, reduceIte, reduceCtorEq, da, int, boolA, h4, h7]
end
theorem l17 (l : List OpM) (hl : l.length ≤ 100000000000000) (pid mid bid : Nat) (hpb : bid ≠ pid) (hmb : bid ≠ mid) (a b c : Int) {Q : AExit → Env → Heap → Prop}
   (hex : ∀ f' K, Q (.exit 0) (mkE 137 f') (hx K [])) :
   ∀ (d i : Nat) (K : Heap) (f : Nat → AV) (p : PoolM) (w : Int → Int) (bs : List Nat) (ck : Nat), i + d = l.length → PoolH K pid mid p bs ck → PRel p w → p.limit = c → K.get bid = some (.box false [int a, int b, int c]) →
     f 4 = .ptr bid 0 0 → f 7 = .ptr pid 0 0 → f 39 = encO l → f 40 = int l.length → f 41 = int i →
    AW ftB (.loop c17L0) (mkE 137 f) (hx K []) Q := by
  intro d
  induction d with
  | zero =>
    intro i K f p w bs ck hd hp hr hc hb h4 h7 h39 h40 h41
    have g1 : ((i : Int) < l.length) = False := by simp; omega
    rw [AW_loop, c17L0_eq]
    simp only [↓vp, vq0, vq1, vq2, vq3, vr0, vr1, vr2, vr3, vr4, vr5, vr6, vr7, vr8, vr9, vr10, vr11, vr12, vr13, vr14, vr15, vr16, vr17, vr18, vr19, vr20, vr21, vr22, vr23, vr24, vr25, vr26, vr27, vr28, vr29, vr30, vr31, vr32, vr33, vr34, opS, fpS, extO, okP, pack, nAl, allocA, shId, leaves, fillA, fillR, splice, Nat.reduceLT, Nat.reduceEqDiff, Nat.reduceLeDiff, Nat.reduceAdd, Nat.reduceSub, Nat.reduceMul, Int.reduceBEq, Int.reduceBNe, Int.reduceLT, Int.reduceLE, Int.reduceEq, reduceIte, reduceCtorEq, da, int, boolA, h40, h41, g1]
    exact hex _ K
  | succ d ih =>
    intro i K f p w bs ck hd hp hr hc hb h4 h7 h39 h40 h41
    have g1 : ((i : Int) < l.length) = True := by simp; omega
    have gi : i < l.length := by omega
    have w1 := wrap_succ (show i < 9223372036854775807 by omega)
    have a0 := fun H => @atO H l i gi
    have b0 := fun H => @cO H l i gi
    have lid := Heap.get_lt hp.box
    have lmd := Heap.get_lt hp.map
    generalize hO : l[i] = o at *
    simp only [pOpC, int] at b0
    rw [AW_loop, c17L0_eq]
    simp only [↓vp, vq0, vq1, vq2, vq3, vr0, vr1, vr2, vr3, vr4, vr5, vr6, vr7, vr8, vr9, vr10, vr11, vr12, vr13, vr14, vr15, vr16, vr17, vr18, vr19, vr20, vr21, vr22, vr23, vr24, vr25, vr26, vr27, vr28, vr29, vr30, vr31, vr32, vr33, vr34, opS, fpS, extO, okP, pack, nAl, allocA, shId, leaves, fillA, fillR, splice, Nat.reduceLT, Nat.reduceEqDiff, Nat.reduceLeDiff, Nat.reduceAdd, Nat.reduceSub, Nat.reduceMul, Int.reduceBEq, Int.reduceBNe, Int.reduceLT, Int.reduceLE, Int.reduceEq, reduceIte, reduceCtorEq, da, int, boolA, dr, h39, h40, h41, g1, a0, b0]
    rw [← hx_nil (hx K _)]
    have hj : (hx K [.box false (pOpC o)]).get K.next = some (.box false (pOpC o)) := hx_get0 _ _
    refine d17 (pool_hx hp [.box false (pOpC o)]) hr hj ?_ ?_ ?_ fun f1 K1 p1 w1' b1 c1 h1 r1 e1 fr z4 z7 z10 z39 z40 z41 => ?_
    · simp only [↓vp, vq0, vq1, vq2, vq3, vr0, vr1, vr2, vr3, vr4, vr5, vr6, vr7, vr8, vr9, vr10, vr11, vr12, vr13, vr14, vr15, vr16, vr17, vr18, vr19, vr20, vr21, vr22, vr23, vr24, vr25, vr26, vr27, vr28, vr29, vr30, vr31, vr32, vr33, vr34, opS, fpS, extO, okP, pack, nAl, allocA, shId, leaves, fillA, fillR, splice, Nat.reduceLT, Nat.reduceEqDiff, Nat.reduceLeDiff, Nat.reduceAdd, Nat.reduceSub, Nat.reduceMul, Int.reduceBEq, Int.reduceBNe, Int.reduceLT, Int.reduceLE, Int.reduceEq, reduceIte, reduceCtorEq, da, int, boolA, h7]
    · simp only [↓vp, vq0, vq1, vq2, vq3, vr0, vr1, vr2, vr3, vr4, vr5, vr6, vr7, vr8, vr9, vr10, vr11, vr12, vr13, vr14, vr15, vr16, vr17, vr18, vr19, vr20, vr21, vr22, vr23, vr24, vr25, vr26, vr27, vr28, vr29, vr30, vr31, vr32, vr33, vr34, opS, fpS, extO, okP, pack, nAl, allocA, shId, leaves, fillA, fillR, splice, Nat.reduceLT, Nat.reduceEqDiff, Nat.reduceLeDiff, Nat.reduceAdd, Nat.reduceSub, Nat.reduceMul, Int.reduceBEq, Int.reduceBNe, Int.reduceLT, Int.reduceLE, Int.reduceEq, reduceIte, reduceCtorEq, da, int, boolA]
    · simp only [↓vp, vq0, vq1, vq2, vq3, vr0, vr1, vr2, vr3, vr4, vr5, vr6, vr7, vr8, vr9, vr10, vr11, vr12, vr13, vr14, vr15, vr16, vr17, vr18, vr19, vr20, vr21, vr22, vr23, vr24, vr25, vr26, vr27, vr28, vr29, vr30, vr31, vr32, vr33, vr34, opS, fpS, extO, okP, pack, nAl, allocA, shId, leaves, fillA, fillR, splice, Nat.reduceLT, Nat.reduceEqDiff, Nat.reduceLeDiff, Nat.reduceAdd, Nat.reduceSub, Nat.reduceMul, Int.reduceBEq, Int.reduceBNe, Int.reduceLT, Int.reduceLE, Int.reduceEq, reduceIte, reduceCtorEq, da, int, boolA]
      try rfl
    simp only [↓vp, vq0, vq1, vq2, vq3, vr0, vr1, vr2, vr3, vr4, vr5, vr6, vr7, vr8, vr9, vr10, vr11, vr12, vr13, vr14, vr15, vr16, vr17, vr18, vr19, vr20, vr21, vr22, vr23, vr24, vr25, vr26, vr27, vr28, vr29, vr30, vr31, vr32, vr33, vr34, opS, fpS, extO, okP, pack, nAl, allocA, shId, leaves, fillA, fillR, splice, Nat.reduceLT, Nat.reduceEqDiff, Nat.reduceLeDiff, Nat.reduceAdd, Nat.reduceSub, Nat.reduceMul, Int.reduceBEq, Int.reduceBNe, Int.reduceLT, Int.reduceLE, Int.reduceEq, reduceIte, reduceCtorEq, da, int, boolA, h4, h7, h39, h40, h41] at z4 z7 z10 z39 z40 z41
    simp only [↓vp, vq0, vq1, vq2, vq3, vr0, vr1, vr2, vr3, vr4, vr5, vr6, vr7, vr8, vr9, vr10, vr11, vr12, vr13, vr14, vr15, vr16, vr17, vr18, vr19, vr20, vr21, vr22, vr23, vr24, vr25, vr26, vr27, vr28, vr29, vr30, vr31, vr32, vr33, vr34, opS, fpS, extO, okP, pack, nAl, allocA, shId, leaves, fillA, fillR, splice, Nat.reduceLT, Nat.reduceEqDiff, Nat.reduceLeDiff, Nat.reduceAdd, Nat.reduceSub, Nat.reduceMul, Int.reduceBEq, Int.reduceBNe, Int.reduceLT, Int.reduceLE, Int.reduceEq, reduceIte, reduceCtorEq, da, int, boolA]
    have hj1 : K1.get K.next = some (.box false (pOpC o)) := by rw [fr.eq _ (by rw [hx_next]; simp) (by omega) (by omega)]; exact hj
    have hb1 : K1.get bid = some (.box false [int a, int b, int p1.limit]) := by rw [fr.eq _ (by rw [hx_next]; have := Heap.get_lt hb; omega) hpb hmb, e1, hc]; exact get_old hb _
    refine t17 h1 r1 hj1 z7 z10 hb1 z4 fun x f2 K2 hx' h2 hb2 y4 y7 y39 y40 y41 => ?_
    rw [z4] at y4
    rw [z7] at y7
    rw [z39] at y39
    rw [z40] at y40
    rw [z41] at y41
    rcases hx' with rfl | rfl
    · simp only [↓vp, vq0, vq1, vq2, vq3, vr0, vr1, vr2, vr3, vr4, vr5, vr6, vr7, vr8, vr9, vr10, vr11, vr12, vr13, vr14, vr15, vr16, vr17, vr18, vr19, vr20, vr21, vr22, vr23, vr24, vr25, vr26, vr27, vr28, vr29, vr30, vr31, vr32, vr33, vr34, opS, fpS, extO, okP, pack, nAl, allocA, shId, leaves, fillA, fillR, splice, Nat.reduceLT, Nat.reduceEqDiff, Nat.reduceLeDiff, Nat.reduceAdd, Nat.reduceSub, Nat.reduceMul, Int.reduceBEq, Int.reduceBNe, Int.reduceLT, Int.reduceLE, Int.reduceEq, reduceIte, reduceCtorEq, da, int, boolA, dr, y41, w1]
      refine ih (i + 1) K2 _ p1 w1' b1 c1 (by omega) h2 r1 (by rw [e1, hc]) (by rw [← hc, ← e1]; exact hb2) ?_ ?_ ?_ ?_ ?_ <;> simp only [↓vp, vq0, vq1, vq2, vq3, vr0, vr1, vr2, vr3, vr4, vr5, vr6, vr7, vr8, vr9, vr10, vr11, vr12, vr13, vr14, vr15, vr16, vr17, vr18, vr19, vr20, vr21, vr22, vr23, vr24, vr25, vr26, vr27, vr28, vr29, vr30, vr31, vr32, vr33, vr34, opS, fpS, extO, okP, pack, nAl, allocA, shId, leaves, fillA, fillR, splice, Nat.reduceLT, Nat.reduceEqDiff, Nat.reduceLeDiff, Nat.reduceAdd, Nat.reduceSub, Nat.reduceMul, Int.reduceBEq, Int.reduceBNe, Int.reduceLT, Int.reduceLE, Int.reduceEq, reduceIte, reduceCtorEq, da, int, boolA, y4, y7, y39, y40]
    · simp only [↓vp, vq0, vq1, vq2, vq3, vr0, vr1, vr2, vr3, vr4, vr5, vr6, vr7, vr8, vr9, vr10, vr11, vr12, vr13, vr14, vr15, vr16, vr17, vr18, vr19, vr20, vr21, vr22, vr23, vr24, vr25, vr26, vr27, vr28, vr29, vr30, vr31, vr32, vr33, vr34, opS, fpS, extO, okP, pack, nAl, allocA, shId, leaves, fillA, fillR, splice, Nat.reduceLT, Nat.reduceEqDiff, Nat.reduceLeDiff, Nat.reduceAdd, Nat.reduceSub, Nat.reduceMul, Int.reduceBEq, Int.reduceBNe, Int.reduceLT, Int.reduceLE, Int.reduceEq, reduceIte, reduceCtorEq, da, int, boolA, dr, y41, w1]
      refine ih (i + 1) K2 _ p1 w1' b1 c1 (by omega) h2 r1 (by rw [e1, hc]) (by rw [← hc, ← e1]; exact hb2) ?_ ?_ ?_ ?_ ?_ <;> simp only [↓vp, vq0, vq1, vq2, vq3, vr0, vr1, vr2, vr3, vr4, vr5, vr6, vr7, vr8, vr9, vr10, vr11, vr12, vr13, vr14, vr15, vr16, vr17, vr18, vr19, vr20, vr21, vr22, vr23, vr24, vr25, vr26, vr27, vr28, vr29, vr30, vr31, vr32, vr33, vr34, opS, fpS, extO, okP, pack, nAl, allocA, shId, leaves, fillA, fillR, splice, Nat.reduceLT, Nat.reduceEqDiff, Nat.reduceLeDiff, Nat.reduceAdd, Nat.reduceSub, Nat.reduceMul, Int.reduceBEq, Int.reduceBNe, Int.reduceLT, Int.reduceLE, Int.reduceEq, reduceIte, reduceCtorEq, da, int, boolA, y4, y7, y39, y40]
section
variable {f h : List RunM} (hf : f.length ≤ 1048576) (hh : h.length ≤ 1048576) {a b c : Int} {l : List OpM} (hl : l.length ≤ 100000000000000)
include hf hh hl
theorem c17_body : AW ftB c17 (mkE 137 (ofL [.agg [encR f, encR h], .agg [int a, int b, int c], encO l])) (hx Heap.empty []) (RetP r17 (boolA true)) := by
  have i0 : ∀ H j, iaddrA H (some 3) 1 (.ptr j 0 0) 0 = some (.ptr j 0 0) := fun _ _ => rfl
  have i1 : ∀ H j, iaddrA H (some 3) 1 (.ptr j 0 0) 1 = some (.ptr j 0 1) := fun _ _ => rfl
  have i2 : ∀ H j, iaddrA H (some 3) 1 (.ptr j 0 0) 2 = some (.ptr j 0 2) := fun _ _ => rfl
  have k55 : ∀ K L Q, KW ftB (.fn (.func 55) [] []) [.agg [encR f, encR h], int b, encO l] (hx K L) Q ↔ Q (boolA (few11 f h b l)) (hx K L) := fun K L Q => KW_of (s55 f h b l (by omega) (by omega) (by omega) (.inl rfl) _)
  have k56 := fun K L Q => @KW_of ftB _ _ _ Q _ _ (s56 (hx K L))
  have k58 := fun K L Q => @KW_of ftB _ _ _ Q _ _ (s58 f h (by omega) (by omega) (hx K L))
  have v58 : pureV ftB (.fn (.func 58) [] []) [.agg [encR f, encR h]] = some (false, []) := rfl
  have n1 : ∀ i, isnilA 1 (.ptr i 0 0) = some false := fun _ => rfl
  have n2 : isnilA 1 (.sc (.pointer none)) = some true := rfl
  have xf : ∀ q, exFQ (none : FP).isSome q = q := fun q => by cases q <;> rfl
  have le : ∀ H, lenV H 0 (encO l) = some (.sc (.int .i64 (l.length : Nat)), H) := fun H => by simp [encO, lenV, lenOfA]
  cases g1 : few11 f h b l with
  | false =>
    rw [g1] at k55
    simp only [int, boolA] at k55 k56
    unfold c17 r17
    simp only [↓vp, vq0, vq1, vq2, vq3, vr0, vr1, vr2, vr3, vr4, vr5, vr6, vr7, vr8, vr9, vr10, vr11, vr12, vr13, vr14, vr15, vr16, vr17, vr18, vr19, vr20, vr21, vr22, vr23, vr24, vr25, vr26, vr27, vr28, vr29, vr30, vr31, vr32, vr33, vr34, opS, fpS, extO, okP, pack, nAl, allocA, shId, leaves, fillA, fillR, splice, Nat.reduceLT, Nat.reduceEqDiff, Nat.reduceLeDiff, Nat.reduceAdd, Nat.reduceSub, Nat.reduceMul, Int.reduceBEq, Int.reduceBNe, Int.reduceLT, Int.reduceLE, Int.reduceEq, reduceIte, reduceCtorEq, da, int, boolA, RetP_go, resT, resC, resN, retV1, retV2, retV3, retV0, frzFZ, takeM, Option.some.injEq, dr, i0, i1, i2, k55, k56]
  | true =>
    rw [g1] at k55
    have s := fun K L => @s57 (hx K L) f h a b c (by omega) (by omega)
    cases ok : okNew f h a b c with
    | false =>
      simp only [ok] at s
      have k57 := fun K L Q => @KW_of ftB _ _ _ Q _ _ (s K L)
      simp only [int, boolA] at k55 k56 k57
      unfold c17 r17
      simp only [↓vp, vq0, vq1, vq2, vq3, vr0, vr1, vr2, vr3, vr4, vr5, vr6, vr7, vr8, vr9, vr10, vr11, vr12, vr13, vr14, vr15, vr16, vr17, vr18, vr19, vr20, vr21, vr22, vr23, vr24, vr25, vr26, vr27, vr28, vr29, vr30, vr31, vr32, vr33, vr34, opS, fpS, extO, okP, pack, nAl, allocA, shId, leaves, fillA, fillR, splice, Nat.reduceLT, Nat.reduceEqDiff, Nat.reduceLeDiff, Nat.reduceAdd, Nat.reduceSub, Nat.reduceMul, Int.reduceBEq, Int.reduceBNe, Int.reduceLT, Int.reduceLE, Int.reduceEq, reduceIte, reduceCtorEq, da, int, boolA, RetP_go, resT, resC, resN, retV1, retV2, retV3, retV0, frzFZ, takeM, Option.some.injEq, dr, i0, i1, i2, k55, k56, k57, k58, v58, n1, n2, xf, le]
    | true =>
      simp only [ok] at s
      have k57 := fun K L Q => @KW_of ftB _ _ _ Q _ _ (s K L)
      simp only [int, boolA] at k55 k56 k57
      unfold c17 r17
      simp only [↓vp, vq0, vq1, vq2, vq3, vr0, vr1, vr2, vr3, vr4, vr5, vr6, vr7, vr8, vr9, vr10, vr11, vr12, vr13, vr14, vr15, vr16, vr17, vr18, vr19, vr20, vr21, vr22, vr23, vr24, vr25, vr26, vr27, vr28, vr29, vr30, vr31, vr32, vr33, vr34, opS, fpS, extO, okP, pack, nAl, allocA, shId, leaves, fillA, fillR, splice, Nat.reduceLT, Nat.reduceEqDiff, Nat.reduceLeDiff, Nat.reduceAdd, Nat.reduceSub, Nat.reduceMul, Int.reduceBEq, Int.reduceBNe, Int.reduceLT, Int.reduceLE, Int.reduceEq, reduceIte, reduceCtorEq, da, int, boolA, RetP_go, resT, resC, resN, retV1, retV2, retV3, retV0, frzFZ, takeM, Option.some.injEq, dr, i0, i1, i2, k55, k56, k57, k58, v58, n1, n2, xf, le]
      generalize hK : hx (hx Heap.empty [_, _]) _ = K0
      rw [← hx_nil K0]
      have hn := PRel.new ok
      refine l17 l hl 4 3 1 (by decide) (by decide) a b c (fun f' K => ?_) l.length 0 K0 _ (newP f h a b c) (newW f h a) [0] 1 (by simp) ?_ hn.1 rfl ?_ ?_ ?_ ?_ ?_ ?_
      rotate_left
      · subst hK
        exact ⟨rfl, rfl, hn.2, hn.1.rf⟩
      · subst hK
        rfl
      · simp only [↓vp, vq0, vq1, vq2, vq3, vr0, vr1, vr2, vr3, vr4, vr5, vr6, vr7, vr8, vr9, vr10, vr11, vr12, vr13, vr14, vr15, vr16, vr17, vr18, vr19, vr20, vr21, vr22, vr23, vr24, vr25, vr26, vr27, vr28, vr29, vr30, vr31, vr32, vr33, vr34, opS, fpS, extO, okP, pack, nAl, allocA, shId, leaves, fillA, fillR, splice, Nat.reduceLT, Nat.reduceEqDiff, Nat.reduceLeDiff, Nat.reduceAdd, Nat.reduceSub, Nat.reduceMul, Int.reduceBEq, Int.reduceBNe, Int.reduceLT, Int.reduceLE, Int.reduceEq, reduceIte, reduceCtorEq, da, int, boolA]
      · simp only [↓vp, vq0, vq1, vq2, vq3, vr0, vr1, vr2, vr3, vr4, vr5, vr6, vr7, vr8, vr9, vr10, vr11, vr12, vr13, vr14, vr15, vr16, vr17, vr18, vr19, vr20, vr21, vr22, vr23, vr24, vr25, vr26, vr27, vr28, vr29, vr30, vr31, vr32, vr33, vr34, opS, fpS, extO, okP, pack, nAl, allocA, shId, leaves, fillA, fillR, splice, Nat.reduceLT, Nat.reduceEqDiff, Nat.reduceLeDiff, Nat.reduceAdd, Nat.reduceSub, Nat.reduceMul, Int.reduceBEq, Int.reduceBNe, Int.reduceLT, Int.reduceLE, Int.reduceEq, reduceIte, reduceCtorEq, da, int, boolA]
      · simp only [↓vp, vq0, vq1, vq2, vq3, vr0, vr1, vr2, vr3, vr4, vr5, vr6, vr7, vr8, vr9, vr10, vr11, vr12, vr13, vr14, vr15, vr16, vr17, vr18, vr19, vr20, vr21, vr22, vr23, vr24, vr25, vr26, vr27, vr28, vr29, vr30, vr31, vr32, vr33, vr34, opS, fpS, extO, okP, pack, nAl, allocA, shId, leaves, fillA, fillR, splice, Nat.reduceLT, Nat.reduceEqDiff, Nat.reduceLeDiff, Nat.reduceAdd, Nat.reduceSub, Nat.reduceMul, Int.reduceBEq, Int.reduceBNe, Int.reduceLT, Int.reduceLE, Int.reduceEq, reduceIte, reduceCtorEq, da, int, boolA]
      · simp only [↓vp, vq0, vq1, vq2, vq3, vr0, vr1, vr2, vr3, vr4, vr5, vr6, vr7, vr8, vr9, vr10, vr11, vr12, vr13, vr14, vr15, vr16, vr17, vr18, vr19, vr20, vr21, vr22, vr23, vr24, vr25, vr26, vr27, vr28, vr29, vr30, vr31, vr32, vr33, vr34, opS, fpS, extO, okP, pack, nAl, allocA, shId, leaves, fillA, fillR, splice, Nat.reduceLT, Nat.reduceEqDiff, Nat.reduceLeDiff, Nat.reduceAdd, Nat.reduceSub, Nat.reduceMul, Int.reduceBEq, Int.reduceBNe, Int.reduceLT, Int.reduceLE, Int.reduceEq, reduceIte, reduceCtorEq, da, int, boolA, encO, List.length_map]
        try rfl
      · simp only [↓vp, vq0, vq1, vq2, vq3, vr0, vr1, vr2, vr3, vr4, vr5, vr6, vr7, vr8, vr9, vr10, vr11, vr12, vr13, vr14, vr15, vr16, vr17, vr18, vr19, vr20, vr21, vr22, vr23, vr24, vr25, vr26, vr27, vr28, vr29, vr30, vr31, vr32, vr33, vr34, opS, fpS, extO, okP, pack, nAl, allocA, shId, leaves, fillA, fillR, splice, Nat.reduceLT, Nat.reduceEqDiff, Nat.reduceLeDiff, Nat.reduceAdd, Nat.reduceSub, Nat.reduceMul, Int.reduceBEq, Int.reduceBNe, Int.reduceLT, Int.reduceLE, Int.reduceEq, reduceIte, reduceCtorEq, da, int, boolA]
        try rfl
      unfold c17R1
      simp only [↓vp, vq0, vq1, vq2, vq3, vr0, vr1, vr2, vr3, vr4, vr5, vr6, vr7, vr8, vr9, vr10, vr11, vr12, vr13, vr14, vr15, vr16, vr17, vr18, vr19, vr20, vr21, vr22, vr23, vr24, vr25, vr26, vr27, vr28, vr29, vr30, vr31, vr32, vr33, vr34, opS, fpS, extO, okP, pack, nAl, allocA, shId, leaves, fillA, fillR, splice, Nat.reduceLT, Nat.reduceEqDiff, Nat.reduceLeDiff, Nat.reduceAdd, Nat.reduceSub, Nat.reduceMul, Int.reduceBEq, Int.reduceBNe, Int.reduceLT, Int.reduceLE, Int.reduceEq, reduceIte, reduceCtorEq, da, int, boolA, RetP_go, resT, resC, resN, retV1, retV2, retV3, retV0, frzFZ, takeM, Option.some.injEq, dr, k56]
theorem s17 (H : Heap) : callL ftB17 (.fn (.func 17) [] []) [.agg [encR f, encR h], .agg [int a, int b, int c], encO l] H = some (boolA true, H) :=
  call_p (as' := [.agg [encR f, encR h], .agg [int a, int b, int c], encO l]) rfl rfl (by simp) (AW_sub ftB17_sub (c17_body hf hh hl))
end
end Go.VI

set_option linter.unusedVariables false
set_option maxRecDepth 100000
namespace Go.VI
theorem fc17 : compF Go.Proofs.Try.prog 17 = some (137, r17, c17) := by kernel_rfl
theorem fn17 : (Go.Proofs.Try.prog.funcs[17]?).all (fun fn => !(fn.name == "runtime.NumGoroutine")) = true := by kernel_rfl
theorem ftB17_ok : FTOk Go.Proofs.Try.prog ftB17 := by
  intro k d h
  unfold ftB17 at h
  split at h
  · cases h; exact go_ok fc17 fn17
  · exact ftB_ok _ _ h
end Go.VI
