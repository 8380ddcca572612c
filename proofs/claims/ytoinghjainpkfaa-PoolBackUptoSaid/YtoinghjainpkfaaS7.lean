import Derived.Test.YtoinghjainpkfaaS6
import Derived.Test.YtoinghjainpkfaaRows
import Derived.Shelf.SlMaps.Clone
import Derived.Test.YtoinghjainpkfaaChecked
import Derived.KernelRfl
/- What the claim hangs on, part 7: UQ RG6 RSN RF5 UL UM UN UR US RF514. -/
set_option linter.unusedVariables false
set_option linter.unusedSimpArgs false
set_option maxRecDepth 100000
namespace Go.VI
attribute [local congr] AW_congr OW_congr DW_congr NW_congr VW_congr GW_congr PW_congr KW_congr ite_congr' GV_congr CV_congr KF_congr
structure OpM where
  kind : Int
  txid : Int
  n : Int
  at' : Int
  len : Int
def pOpC (o : OpM) : List AV := [int o.kind, int o.txid, int o.n, int o.at', int o.len]
def encO (l : List OpM) : AV := .lst (l.map pOpC)
theorem atO {H : Heap} {l : List OpM} {i : Nat} (h : i < l.length) : iaddrA H none 5 (encO l) (i : Int) = some (.pim (l.map pOpC) i 0) := by
  have hl : i < (l.map pOpC).length := by simpa using h
  simp only [iaddrA, encO]
  rw [if_pos (by omega), Int.toNat_natCast, List.getElem?_eq_getElem hl]
  simp [pOpC]
theorem cO {H : Heap} {l : List OpM} {i : Nat} (h : i < l.length) : cellsAt H (.pim (l.map pOpC) i 0) 5 = some (pOpC l[i]) := by
  have hl : i < (l.map pOpC).length := by simpa using h
  simp [cellsAt, h, pOpC]
def opBad (o : OpM) : Bool := (!(o.kind == 2) && decide (60 < o.n) && decide (o.n ≤ 16384)) || (o.kind == 2 && decide (o.txid < 0))
def few11 (f h : List RunM) (pages : Int) (l : List OpM) : Bool := l.all (fun o => !opBad o) && (f ++ h).all fewR && decide (l.length ≤ 60) && decide (pages ≤ 600)
theorem l55a (l : List OpM) (hl : l.length ≤ 100000000000000) (C : Blk) {Q : AExit → Env → Heap → Prop} (x1 : AV)
   (hex : ∀ f' K, l.all (fun o => !opBad o) = true → K.get 0 = some C → f' 1 = x1 → f' 3 = .ptr 0 0 0 → f' 7 = int l.length → Q (.exit 0) (mkE 73 f') (hx K []))
   (hret : ∀ f' K, l.all (fun o => !opBad o) = false → f' 6 = boolA false → Q .ret (mkE 73 f') (hx K [])) :
   ∀ (d i : Nat) (K : Heap) (f : Nat → AV), i + d = l.length → l.all (fun o => !opBad o) = (l.drop i).all (fun o => !opBad o) → K.get 0 = some C → f 1 = x1 → f 3 = .ptr 0 0 0 → f 7 = int i → f 12 = encO l → f 13 = int l.length → f 14 = int i →
    AW ftB (.loop c55L0) (mkE 73 f) (hx K []) Q := by
  intro d
  induction d with
  | zero =>
    intro i K f hd hc h0 h1 h3 h7 h12 h13 h14
    have g1 : ((i : Int) < l.length) = False := by simp; omega
    rw [AW_loop]
    unfold c55L0
    rw [List.drop_eq_nil_of_le (by omega)] at hc
    simp only [↓vp, vq0, vq1, vq2, vq3, vr0, vr1, vr2, vr3, vr4, vr5, vr6, vr7, vr8, vr9, vr10, vr11, vr12, vr13, vr14, vr15, vr16, vr17, vr18, vr19, vr20, vr21, vr22, vr23, vr24, vr25, vr26, vr27, vr28, vr29, vr30, vr31, vr32, vr33, vr34, opS, fpS, extO, okP, pack, nAl, allocA, shId, leaves, fillA, fillR, splice, Nat.reduceLT, Nat.reduceEqDiff, Nat.reduceLeDiff, Nat.reduceAdd, Nat.reduceSub, Nat.reduceMul, Int.reduceBEq, Int.reduceBNe, Int.reduceLT, Int.reduceLE, Int.reduceEq, reduceIte, reduceCtorEq, da, int, boolA, h13, h14, g1]
    refine hex _ K (by rw [hc]; rfl) h0 ?_ ?_ ?_
    · simp only [↓vp, vq0, vq1, vq2, vq3, vr0, vr1, vr2, vr3, vr4, vr5, vr6, vr7, vr8, vr9, vr10, vr11, vr12, vr13, vr14, vr15, vr16, vr17, vr18, vr19, vr20, vr21, vr22, vr23, vr24, vr25, vr26, vr27, vr28, vr29, vr30, vr31, vr32, vr33, vr34, opS, fpS, extO, okP, pack, nAl, allocA, shId, leaves, fillA, fillR, splice, Nat.reduceLT, Nat.reduceEqDiff, Nat.reduceLeDiff, Nat.reduceAdd, Nat.reduceSub, Nat.reduceMul, Int.reduceBEq, Int.reduceBNe, Int.reduceLT, Int.reduceLE, Int.reduceEq, reduceIte, reduceCtorEq, da, int, boolA, h1]
    · simp only [↓vp, vq0, vq1, vq2, vq3, vr0, vr1, vr2, vr3, vr4, vr5, vr6, vr7, vr8, vr9, vr10, vr11, vr12, vr13, vr14, vr15, vr16, vr17, vr18, vr19, vr20, vr21, vr22, vr23, vr24, vr25, vr26, vr27, vr28, vr29, vr30, vr31, vr32, vr33, vr34, opS, fpS, extO, okP, pack, nAl, allocA, shId, leaves, fillA, fillR, splice, Nat.reduceLT, Nat.reduceEqDiff, Nat.reduceLeDiff, Nat.reduceAdd, Nat.reduceSub, Nat.reduceMul, Int.reduceBEq, Int.reduceBNe, Int.reduceLT, Int.reduceLE, Int.reduceEq, reduceIte, reduceCtorEq, da, int, boolA, h3]
    · simp only [↓vp, vq0, vq1, vq2, vq3, vr0, vr1, vr2, vr3, vr4, vr5, vr6, vr7, vr8, vr9, vr10, vr11, vr12, vr13, vr14, vr15, vr16, vr17, vr18, vr19, vr20, vr21, vr22, vr23, vr24, vr25, vr26, vr27, vr28, vr29, vr30, vr31, vr32, vr33, vr34, opS, fpS, extO, okP, pack, nAl, allocA, shId, leaves, fillA, fillR, splice, Nat.reduceLT, Nat.reduceEqDiff, Nat.reduceLeDiff, Nat.reduceAdd, Nat.reduceSub, Nat.reduceMul, Int.reduceBEq, Int.reduceBNe, Int.reduceLT, Int.reduceLE, Int.reduceEq, reduceIte, reduceCtorEq, da, int, boolA, h7]
      rw [show i = l.length by omega]
  | succ d ih =>
    intro i K f hd hc h0 h1 h3 h7 h12 h13 h14
    have g1 : ((i : Int) < l.length) = True := by simp; omega
    have gi : i < l.length := by omega
    have w1 := wrap_succ (show i < 9223372036854775807 by omega)
    have lk := Heap.get_lt h0
    have a0 := fun H => @atO H l i gi
    have b0 := fun H => @cO H l i gi
    simp only [pOpC, int] at b0
    rw [List.drop_eq_getElem_cons gi, List.all_cons] at hc
    have go : opBad l[i] = false → AW ftB (.loop c55L0) (mkE 73 f) (hx K []) Q := fun hb => by
      rw [hb, Bool.not_false, Bool.true_and] at hc
      rw [AW_loop]
      unfold c55L0
      cases k1 : (l[i].kind == 2) with
      | true =>
        have t1 : ¬ l[i].txid < 0 := fun q => by unfold opBad at hb; rw [k1, decide_eq_true q] at hb; simp at hb
        have e1 : (l[i].txid < 0) = False := eq_false t1
        have k2 : (l[i].kind != 2) = false := by unfold bne; rw [k1]; rfl
        simp only [↓vp, vq0, vq1, vq2, vq3, vr0, vr1, vr2, vr3, vr4, vr5, vr6, vr7, vr8, vr9, vr10, vr11, vr12, vr13, vr14, vr15, vr16, vr17, vr18, vr19, vr20, vr21, vr22, vr23, vr24, vr25, vr26, vr27, vr28, vr29, vr30, vr31, vr32, vr33, vr34, opS, fpS, extO, okP, pack, nAl, allocA, shId, leaves, fillA, fillR, splice, Nat.reduceLT, Nat.reduceEqDiff, Nat.reduceLeDiff, Nat.reduceAdd, Nat.reduceSub, Nat.reduceMul, Int.reduceBEq, Int.reduceBNe, Int.reduceLT, Int.reduceLE, Int.reduceEq, reduceIte, reduceCtorEq, da, int, boolA, dr, h1, h3, h7, h12, h13, h14, g1, a0, b0, k1, k2, e1, w1]
        rw [← hx_nil (hx K _)]
        refine ih (i + 1) _ _ (by omega) hc (get_old h0 _) ?_ ?_ ?_ ?_ ?_ ?_ <;> simp only [↓vp, vq0, vq1, vq2, vq3, vr0, vr1, vr2, vr3, vr4, vr5, vr6, vr7, vr8, vr9, vr10, vr11, vr12, vr13, vr14, vr15, vr16, vr17, vr18, vr19, vr20, vr21, vr22, vr23, vr24, vr25, vr26, vr27, vr28, vr29, vr30, vr31, vr32, vr33, vr34, opS, fpS, extO, okP, pack, nAl, allocA, shId, leaves, fillA, fillR, splice, Nat.reduceLT, Nat.reduceEqDiff, Nat.reduceLeDiff, Nat.reduceAdd, Nat.reduceSub, Nat.reduceMul, Int.reduceBEq, Int.reduceBNe, Int.reduceLT, Int.reduceLE, Int.reduceEq, reduceIte, reduceCtorEq, da, int, boolA, h1, h3, h12, h13]
      | false =>
        have k2 : (l[i].kind != 2) = true := by unfold bne; rw [k1]; rfl
        by_cases n1 : l[i].n > 60
        · have n2 : ¬ l[i].n ≤ 16384 := fun q => by unfold opBad at hb; rw [k1, decide_eq_true q, decide_eq_true (show 60 < l[i].n from n1)] at hb; simp at hb
          have e1 : (l[i].n > 60) = True := eq_true n1
          have e2 : (60 < l[i].n) = True := eq_true n1
          have e3 : (l[i].n ≤ 16384) = False := eq_false n2
          simp only [↓vp, vq0, vq1, vq2, vq3, vr0, vr1, vr2, vr3, vr4, vr5, vr6, vr7, vr8, vr9, vr10, vr11, vr12, vr13, vr14, vr15, vr16, vr17, vr18, vr19, vr20, vr21, vr22, vr23, vr24, vr25, vr26, vr27, vr28, vr29, vr30, vr31, vr32, vr33, vr34, opS, fpS, extO, okP, pack, nAl, allocA, shId, leaves, fillA, fillR, splice, Nat.reduceLT, Nat.reduceEqDiff, Nat.reduceLeDiff, Nat.reduceAdd, Nat.reduceSub, Nat.reduceMul, Int.reduceBEq, Int.reduceBNe, Int.reduceLT, Int.reduceLE, Int.reduceEq, reduceIte, reduceCtorEq, da, int, boolA, dr, h1, h3, h7, h12, h13, h14, g1, a0, b0, k1, k2, e1, e2, e3, w1]
          rw [← hx_nil (hx K _)]
          refine ih (i + 1) _ _ (by omega) hc (get_old h0 _) ?_ ?_ ?_ ?_ ?_ ?_ <;> simp only [↓vp, vq0, vq1, vq2, vq3, vr0, vr1, vr2, vr3, vr4, vr5, vr6, vr7, vr8, vr9, vr10, vr11, vr12, vr13, vr14, vr15, vr16, vr17, vr18, vr19, vr20, vr21, vr22, vr23, vr24, vr25, vr26, vr27, vr28, vr29, vr30, vr31, vr32, vr33, vr34, opS, fpS, extO, okP, pack, nAl, allocA, shId, leaves, fillA, fillR, splice, Nat.reduceLT, Nat.reduceEqDiff, Nat.reduceLeDiff, Nat.reduceAdd, Nat.reduceSub, Nat.reduceMul, Int.reduceBEq, Int.reduceBNe, Int.reduceLT, Int.reduceLE, Int.reduceEq, reduceIte, reduceCtorEq, da, int, boolA, h1, h3, h12, h13]
        · have e1 : (l[i].n > 60) = False := eq_false n1
          have e2 : (60 < l[i].n) = False := eq_false n1
          simp only [↓vp, vq0, vq1, vq2, vq3, vr0, vr1, vr2, vr3, vr4, vr5, vr6, vr7, vr8, vr9, vr10, vr11, vr12, vr13, vr14, vr15, vr16, vr17, vr18, vr19, vr20, vr21, vr22, vr23, vr24, vr25, vr26, vr27, vr28, vr29, vr30, vr31, vr32, vr33, vr34, opS, fpS, extO, okP, pack, nAl, allocA, shId, leaves, fillA, fillR, splice, Nat.reduceLT, Nat.reduceEqDiff, Nat.reduceLeDiff, Nat.reduceAdd, Nat.reduceSub, Nat.reduceMul, Int.reduceBEq, Int.reduceBNe, Int.reduceLT, Int.reduceLE, Int.reduceEq, reduceIte, reduceCtorEq, da, int, boolA, dr, h1, h3, h7, h12, h13, h14, g1, a0, b0, k1, k2, e1, e2, w1]
          rw [← hx_nil (hx K _)]
          refine ih (i + 1) _ _ (by omega) hc (get_old h0 _) ?_ ?_ ?_ ?_ ?_ ?_ <;> simp only [↓vp, vq0, vq1, vq2, vq3, vr0, vr1, vr2, vr3, vr4, vr5, vr6, vr7, vr8, vr9, vr10, vr11, vr12, vr13, vr14, vr15, vr16, vr17, vr18, vr19, vr20, vr21, vr22, vr23, vr24, vr25, vr26, vr27, vr28, vr29, vr30, vr31, vr32, vr33, vr34, opS, fpS, extO, okP, pack, nAl, allocA, shId, leaves, fillA, fillR, splice, Nat.reduceLT, Nat.reduceEqDiff, Nat.reduceLeDiff, Nat.reduceAdd, Nat.reduceSub, Nat.reduceMul, Int.reduceBEq, Int.reduceBNe, Int.reduceLT, Int.reduceLE, Int.reduceEq, reduceIte, reduceCtorEq, da, int, boolA, h1, h3, h12, h13]
    cases hb : opBad l[i] with
    | false => exact go hb
    | true =>
      rw [hb, Bool.not_true, Bool.false_and] at hc
      rw [AW_loop]
      unfold c55L0
      cases k1 : (l[i].kind == 2) with
      | true =>
        have t1 : l[i].txid < 0 := by unfold opBad at hb; rw [k1] at hb; simpa using hb
        have e1 : (l[i].txid < 0) = True := eq_true t1
        have k2 : (l[i].kind != 2) = false := by unfold bne; rw [k1]; rfl
        simp only [↓vp, vq0, vq1, vq2, vq3, vr0, vr1, vr2, vr3, vr4, vr5, vr6, vr7, vr8, vr9, vr10, vr11, vr12, vr13, vr14, vr15, vr16, vr17, vr18, vr19, vr20, vr21, vr22, vr23, vr24, vr25, vr26, vr27, vr28, vr29, vr30, vr31, vr32, vr33, vr34, opS, fpS, extO, okP, pack, nAl, allocA, shId, leaves, fillA, fillR, splice, Nat.reduceLT, Nat.reduceEqDiff, Nat.reduceLeDiff, Nat.reduceAdd, Nat.reduceSub, Nat.reduceMul, Int.reduceBEq, Int.reduceBNe, Int.reduceLT, Int.reduceLE, Int.reduceEq, reduceIte, reduceCtorEq, da, int, boolA, dr, h1, h3, h7, h12, h13, h14, g1, a0, b0, k1, k2, e1, w1]
        rw [← hx_nil (hx K _)]
        refine hret _ _ hc ?_
        simp only [↓vp, vq0, vq1, vq2, vq3, vr0, vr1, vr2, vr3, vr4, vr5, vr6, vr7, vr8, vr9, vr10, vr11, vr12, vr13, vr14, vr15, vr16, vr17, vr18, vr19, vr20, vr21, vr22, vr23, vr24, vr25, vr26, vr27, vr28, vr29, vr30, vr31, vr32, vr33, vr34, opS, fpS, extO, okP, pack, nAl, allocA, shId, leaves, fillA, fillR, splice, Nat.reduceLT, Nat.reduceEqDiff, Nat.reduceLeDiff, Nat.reduceAdd, Nat.reduceSub, Nat.reduceMul, Int.reduceBEq, Int.reduceBNe, Int.reduceLT, Int.reduceLE, Int.reduceEq, reduceIte, reduceCtorEq, da, int, boolA]
      | false =>
        have k2 : (l[i].kind != 2) = true := by unfold bne; rw [k1]; rfl
        have n1 : 60 < l[i].n ∧ l[i].n ≤ 16384 := by unfold opBad at hb; rw [k1] at hb; simpa using hb
        have e1 : (l[i].n > 60) = True := eq_true n1.1
        have e2 : (60 < l[i].n) = True := eq_true n1.1
        have e3 : (l[i].n ≤ 16384) = True := eq_true n1.2
        simp only [↓vp, vq0, vq1, vq2, vq3, vr0, vr1, vr2, vr3, vr4, vr5, vr6, vr7, vr8, vr9, vr10, vr11, vr12, vr13, vr14, vr15, vr16, vr17, vr18, vr19, vr20, vr21, vr22, vr23, vr24, vr25, vr26, vr27, vr28, vr29, vr30, vr31, vr32, vr33, vr34, opS, fpS, extO, okP, pack, nAl, allocA, shId, leaves, fillA, fillR, splice, Nat.reduceLT, Nat.reduceEqDiff, Nat.reduceLeDiff, Nat.reduceAdd, Nat.reduceSub, Nat.reduceMul, Int.reduceBEq, Int.reduceBNe, Int.reduceLT, Int.reduceLE, Int.reduceEq, reduceIte, reduceCtorEq, da, int, boolA, dr, h1, h3, h7, h12, h13, h14, g1, a0, b0, k1, k2, e1, e2, e3, w1]
        rw [← hx_nil (hx K _)]
        refine hret _ _ hc ?_
        simp only [↓vp, vq0, vq1, vq2, vq3, vr0, vr1, vr2, vr3, vr4, vr5, vr6, vr7, vr8, vr9, vr10, vr11, vr12, vr13, vr14, vr15, vr16, vr17, vr18, vr19, vr20, vr21, vr22, vr23, vr24, vr25, vr26, vr27, vr28, vr29, vr30, vr31, vr32, vr33, vr34, opS, fpS, extO, okP, pack, nAl, allocA, shId, leaves, fillA, fillR, splice, Nat.reduceLT, Nat.reduceEqDiff, Nat.reduceLeDiff, Nat.reduceAdd, Nat.reduceSub, Nat.reduceMul, Int.reduceBEq, Int.reduceBNe, Int.reduceLT, Int.reduceLE, Int.reduceEq, reduceIte, reduceCtorEq, da, int, boolA]
/-- A slice that is read. -/
def SrcR (K : Heap) (V : AV) (l : List RunM) : Prop := ∀ (i : Nat) (hi : i < l.length), ∃ P, (∀ L, iaddrA (hx K L) none 2 V (i : Int) = some P) ∧ ∀ L, cellsAt (hx K L) P 2 = some (runC l[i])
theorem SrcR.hx {K : Heap} {V : AV} {l : List RunM} (h : SrcR K V l) (M : List Blk) : SrcR (hx K M) V l := fun i hi => by
  obtain ⟨P, h1, h2⟩ := h i hi
  exact ⟨P, fun L => by rw [hx_hx]; exact h1 _, fun L => by rw [hx_hx]; exact h2 _⟩
theorem l55b (l : List RunM) (hl : l.length ≤ 4000000) (V : AV) (x1 x7 : AV) {Q : AExit → Env → Heap → Prop}
   (hex : ∀ f' K, l.all fewR = true → f' 1 = x1 → f' 7 = x7 → Q (.exit 2) (mkE 73 f') (hx K []))
   (hret : ∀ f' K, l.all fewR = false → f' 6 = boolA false → Q .ret (mkE 73 f') (hx K [])) :
   ∀ (d i : Nat) (K : Heap) (f : Nat → AV), i + d = l.length → l.all fewR = (l.drop i).all fewR → SrcR K V l → f 1 = x1 → f 7 = x7 → f 50 = V → f 51 = int l.length → f 52 = int i →
    AW ftB (.loop c55L1) (mkE 73 f) (hx K []) Q := by
  intro d
  induction d with
  | zero =>
    intro i K f hd hc hV h1 h7 h50 h51 h52
    have g1 : ((i : Int) < l.length) = False := by simp; omega
    rw [AW_loop]
    unfold c55L1
    rw [List.drop_eq_nil_of_le (by omega)] at hc
    simp only [↓vp, vq0, vq1, vq2, vq3, vr0, vr1, vr2, vr3, vr4, vr5, vr6, vr7, vr8, vr9, vr10, vr11, vr12, vr13, vr14, vr15, vr16, vr17, vr18, vr19, vr20, vr21, vr22, vr23, vr24, vr25, vr26, vr27, vr28, vr29, vr30, vr31, vr32, vr33, vr34, opS, fpS, extO, okP, pack, nAl, allocA, shId, leaves, fillA, fillR, splice, Nat.reduceLT, Nat.reduceEqDiff, Nat.reduceLeDiff, Nat.reduceAdd, Nat.reduceSub, Nat.reduceMul, Int.reduceBEq, Int.reduceBNe, Int.reduceLT, Int.reduceLE, Int.reduceEq, reduceIte, reduceCtorEq, da, int, boolA, h51, h52, g1]
    refine hex _ K (by rw [hc]; rfl) ?_ ?_
    · simp only [↓vp, vq0, vq1, vq2, vq3, vr0, vr1, vr2, vr3, vr4, vr5, vr6, vr7, vr8, vr9, vr10, vr11, vr12, vr13, vr14, vr15, vr16, vr17, vr18, vr19, vr20, vr21, vr22, vr23, vr24, vr25, vr26, vr27, vr28, vr29, vr30, vr31, vr32, vr33, vr34, opS, fpS, extO, okP, pack, nAl, allocA, shId, leaves, fillA, fillR, splice, Nat.reduceLT, Nat.reduceEqDiff, Nat.reduceLeDiff, Nat.reduceAdd, Nat.reduceSub, Nat.reduceMul, Int.reduceBEq, Int.reduceBNe, Int.reduceLT, Int.reduceLE, Int.reduceEq, reduceIte, reduceCtorEq, da, int, boolA, h1]
    · simp only [↓vp, vq0, vq1, vq2, vq3, vr0, vr1, vr2, vr3, vr4, vr5, vr6, vr7, vr8, vr9, vr10, vr11, vr12, vr13, vr14, vr15, vr16, vr17, vr18, vr19, vr20, vr21, vr22, vr23, vr24, vr25, vr26, vr27, vr28, vr29, vr30, vr31, vr32, vr33, vr34, opS, fpS, extO, okP, pack, nAl, allocA, shId, leaves, fillA, fillR, splice, Nat.reduceLT, Nat.reduceEqDiff, Nat.reduceLeDiff, Nat.reduceAdd, Nat.reduceSub, Nat.reduceMul, Int.reduceBEq, Int.reduceBNe, Int.reduceLT, Int.reduceLE, Int.reduceEq, reduceIte, reduceCtorEq, da, int, boolA, h7]
  | succ d ih =>
    intro i K f hd hc hV h1 h7 h50 h51 h52
    have g1 : ((i : Int) < l.length) = True := by simp; omega
    have gi : i < l.length := by omega
    have w1 := wrap_succ (show i < 9223372036854775807 by omega)
    obtain ⟨P, a0, b0⟩ := hV i gi
    simp only [runC, int] at b0
    rw [List.drop_eq_getElem_cons gi, List.all_cons] at hc
    have km : ∀ K L Q, KW ftB (.fn (.func 49) [] []) [.agg (runC l[i])] (hx K L) Q ↔ Q (boolA (mayM l[i])) (hx K L) := fun K L Q => kB49
    simp only [runC, int] at km
    rw [AW_loop]
    unfold c55L1
    cases c1 : mayM l[i] with
    | false =>
      rw [c1] at km
      have e : fewR l[i] = true := by simp [fewR, c1]
      rw [e, Bool.true_and] at hc
      simp only [↓vp, vq0, vq1, vq2, vq3, vr0, vr1, vr2, vr3, vr4, vr5, vr6, vr7, vr8, vr9, vr10, vr11, vr12, vr13, vr14, vr15, vr16, vr17, vr18, vr19, vr20, vr21, vr22, vr23, vr24, vr25, vr26, vr27, vr28, vr29, vr30, vr31, vr32, vr33, vr34, opS, fpS, extO, okP, pack, nAl, allocA, shId, leaves, fillA, fillR, splice, Nat.reduceLT, Nat.reduceEqDiff, Nat.reduceLeDiff, Nat.reduceAdd, Nat.reduceSub, Nat.reduceMul, Int.reduceBEq, Int.reduceBNe, Int.reduceLT, Int.reduceLE, Int.reduceEq, reduceIte, reduceCtorEq, da, int, boolA, dr, h1, h7, h50, h51, h52, g1, a0, b0, km, w1]
      rw [← hx_nil (hx K _)]
      refine ih (i + 1) _ _ (by omega) hc (hV.hx _) ?_ ?_ ?_ ?_ ?_ <;> simp only [↓vp, vq0, vq1, vq2, vq3, vr0, vr1, vr2, vr3, vr4, vr5, vr6, vr7, vr8, vr9, vr10, vr11, vr12, vr13, vr14, vr15, vr16, vr17, vr18, vr19, vr20, vr21, vr22, vr23, vr24, vr25, vr26, vr27, vr28, vr29, vr30, vr31, vr32, vr33, vr34, opS, fpS, extO, okP, pack, nAl, allocA, shId, leaves, fillA, fillR, splice, Nat.reduceLT, Nat.reduceEqDiff, Nat.reduceLeDiff, Nat.reduceAdd, Nat.reduceSub, Nat.reduceMul, Int.reduceBEq, Int.reduceBNe, Int.reduceLT, Int.reduceLE, Int.reduceEq, reduceIte, reduceCtorEq, da, int, boolA, h1, h7, h50, h51]
    | true =>
      rw [c1] at km
      have w3 : IntKind.i64.wrap (l[i].1 + l[i].2) = endM l[i] := wrap_i64 (by have := mayM_iff.1 c1; omega)
      by_cases c2 : 600 < endM l[i]
      · have d2 : (endM l[i] > 600) = True := eq_true (by omega)
        have d3 : (600 < endM l[i]) = True := eq_true (by omega)
        have e : fewR l[i] = false := by simp [fewR, c1, c2]
        rw [e, Bool.false_and] at hc
        simp only [↓vp, vq0, vq1, vq2, vq3, vr0, vr1, vr2, vr3, vr4, vr5, vr6, vr7, vr8, vr9, vr10, vr11, vr12, vr13, vr14, vr15, vr16, vr17, vr18, vr19, vr20, vr21, vr22, vr23, vr24, vr25, vr26, vr27, vr28, vr29, vr30, vr31, vr32, vr33, vr34, opS, fpS, extO, okP, pack, nAl, allocA, shId, leaves, fillA, fillR, splice, Nat.reduceLT, Nat.reduceEqDiff, Nat.reduceLeDiff, Nat.reduceAdd, Nat.reduceSub, Nat.reduceMul, Int.reduceBEq, Int.reduceBNe, Int.reduceLT, Int.reduceLE, Int.reduceEq, reduceIte, reduceCtorEq, da, int, boolA, dr, h1, h7, h50, h51, h52, g1, a0, b0, km, w3, d2, d3]
        rw [← hx_nil (hx K _)]
        refine hret _ _ hc ?_
        simp only [↓vp, vq0, vq1, vq2, vq3, vr0, vr1, vr2, vr3, vr4, vr5, vr6, vr7, vr8, vr9, vr10, vr11, vr12, vr13, vr14, vr15, vr16, vr17, vr18, vr19, vr20, vr21, vr22, vr23, vr24, vr25, vr26, vr27, vr28, vr29, vr30, vr31, vr32, vr33, vr34, opS, fpS, extO, okP, pack, nAl, allocA, shId, leaves, fillA, fillR, splice, Nat.reduceLT, Nat.reduceEqDiff, Nat.reduceLeDiff, Nat.reduceAdd, Nat.reduceSub, Nat.reduceMul, Int.reduceBEq, Int.reduceBNe, Int.reduceLT, Int.reduceLE, Int.reduceEq, reduceIte, reduceCtorEq, da, int, boolA]
      · have d2 : (endM l[i] > 600) = False := eq_false (by omega)
        have d3 : (600 < endM l[i]) = False := eq_false (by omega)
        have e : fewR l[i] = true := by simp [fewR, c2]
        rw [e, Bool.true_and] at hc
        simp only [↓vp, vq0, vq1, vq2, vq3, vr0, vr1, vr2, vr3, vr4, vr5, vr6, vr7, vr8, vr9, vr10, vr11, vr12, vr13, vr14, vr15, vr16, vr17, vr18, vr19, vr20, vr21, vr22, vr23, vr24, vr25, vr26, vr27, vr28, vr29, vr30, vr31, vr32, vr33, vr34, opS, fpS, extO, okP, pack, nAl, allocA, shId, leaves, fillA, fillR, splice, Nat.reduceLT, Nat.reduceEqDiff, Nat.reduceLeDiff, Nat.reduceAdd, Nat.reduceSub, Nat.reduceMul, Int.reduceBEq, Int.reduceBNe, Int.reduceLT, Int.reduceLE, Int.reduceEq, reduceIte, reduceCtorEq, da, int, boolA, dr, h1, h7, h50, h51, h52, g1, a0, b0, km, w3, d2, d3, w1]
        rw [← hx_nil (hx K _)]
        refine ih (i + 1) _ _ (by omega) hc (hV.hx _) ?_ ?_ ?_ ?_ ?_ <;> simp only [↓vp, vq0, vq1, vq2, vq3, vr0, vr1, vr2, vr3, vr4, vr5, vr6, vr7, vr8, vr9, vr10, vr11, vr12, vr13, vr14, vr15, vr16, vr17, vr18, vr19, vr20, vr21, vr22, vr23, vr24, vr25, vr26, vr27, vr28, vr29, vr30, vr31, vr32, vr33, vr34, opS, fpS, extO, okP, pack, nAl, allocA, shId, leaves, fillA, fillR, splice, Nat.reduceLT, Nat.reduceEqDiff, Nat.reduceLeDiff, Nat.reduceAdd, Nat.reduceSub, Nat.reduceMul, Int.reduceBEq, Int.reduceBNe, Int.reduceLT, Int.reduceLE, Int.reduceEq, reduceIte, reduceCtorEq, da, int, boolA, h1, h7, h50, h51]
theorem src_sl {K : Heap} {id : Nat} {fz : Bool} {l : List RunM} (h : K.get id = some (.row fz 2 (l.map runC))) : SrcR K (.sl id 0 l.length) l := fun i hi => by
  have h' := fun L => get_old h L
  refine ⟨.ptr id i 0, fun L => ?_, fun L => ?_⟩
  · unfold iaddrA
    simp only
    rw [if_pos ⟨by omega, by omega, rowSz_of (h' L)⟩]
    simp
  · simp only [cellsAt, h' L, List.getElem?_map, List.getElem?_eq_getElem hi, Option.map_some]
    simp [runC]
theorem s55 (f h : List RunM) (pages : Int) (l : List OpM) (hf : f.length ≤ 2000000) (hh : h.length ≤ 2000000) (hl : l.length ≤ 100000000000000) {A : AV} (hA : A = encO l ∨ (A = .sc (.slice none 0 0) ∧ l = [])) (H : Heap) :
    callL ftB (.fn (.func 55) [] []) [.agg [encR f, encR h], int pages, A] H = some (boolA (few11 f h pages l), H) := by
  refine call_p (as' := [.agg [encR f, encR h], int pages, encO l]) rfl (by rcases hA with rfl | ⟨rfl, rfl⟩ <;> rfl) (by simp) ?_
  unfold c55 r55
  have ln : ∀ H, lenV H 0 (encO l) = some (int l.length, H) := fun H => by
    show some (AV.sc (.int .i64 ((l.map pOpC).length : Nat)), H) = _
    rw [List.length_map]
    rfl
  simp only [int] at ln
  simp only [↓vp, vq0, vq1, vq2, vq3, vr0, vr1, vr2, vr3, vr4, vr5, vr6, vr7, vr8, vr9, vr10, vr11, vr12, vr13, vr14, vr15, vr16, vr17, vr18, vr19, vr20, vr21, vr22, vr23, vr24, vr25, vr26, vr27, vr28, vr29, vr30, vr31, vr32, vr33, vr34, opS, fpS, extO, okP, pack, nAl, allocA, shId, leaves, fillA, fillR, splice, Nat.reduceLT, Nat.reduceEqDiff, Nat.reduceLeDiff, Nat.reduceAdd, Nat.reduceSub, Nat.reduceMul, Int.reduceBEq, Int.reduceBNe, Int.reduceLT, Int.reduceLE, Int.reduceEq, reduceIte, reduceCtorEq, da, int, boolA, dr, ln]
  rw [← hx_nil (hx Heap.empty _)]
  refine l55a l hl (.box false [encR f, encR h]) (int pages) (fun f1 K1 ho h0 e1 e3 e7 => ?_) (fun f' K hm q2 => ?_) l.length 0 _ _ (by simp) rfl rfl ?_ ?_ ?_ ?_ ?_ ?_
  · have lk := Heap.get_lt h0
    unfold c55R3
    have q0 : ∀ L, (hx K1 L).get 0 = some (.box false [.lst (f.map runC), .lst (h.map runC)]) := fun L => get_old h0 L
    have m0 : ∀ nid H, appA nid H 2 16 .emp [] = some (.emp, H) := fun _ _ => rfl
    have sp : sidP [] = some [] := rfl
    have xf : ∀ q, exFQ (none : FP).isSome q = q := fun q => by cases q <;> rfl
    have r0 : ∀ (l : List RunM) H, rowsOf H (encR l) = some (l.map runC) := fun _ _ => rfl
    have sz : ∀ l : List RunM, allSz 2 (l.map runC) = true := fun l => by
      induction l with
      | nil => rfl
      | cons x l ih => rw [List.map_cons, allSz_cons, ih]; rfl
    have a1 : ∀ nid H, f ≠ [] → appA nid H 2 16 .emp (f.map runC) = some (.sl nid 0 f.length, H.put nid (.row false 2 (f.map runC))) := fun nid H hne => by
      have : 0 < f.length := List.length_pos_iff.2 hne
      rw [appA_emp, List.length_map, if_neg (by omega), if_pos ⟨by omega, sz f⟩]
    have a2 : ∀ nid H, h ≠ [] → appA nid H 2 16 .emp (h.map runC) = some (.sl nid 0 h.length, H.put nid (.row false 2 (h.map runC))) := fun nid H hne => by
      have : 0 < h.length := List.length_pos_iff.2 hne
      rw [appA_emp, List.length_map, if_neg (by omega), if_pos ⟨by omega, sz h⟩]
    have le : ∀ H, lenV H 0 .emp = some (.sc (.int .i64 0), H) := fun _ => rfl
    have ls : ∀ H id n, lenV H 0 (.sl id 0 n) = some (.sc (.int .i64 (n : Nat)), H) := fun _ _ _ => rfl
    have p0 : (K1.next = 0) = False := eq_false (by omega)
    have p1 : (0 = K1.next) = False := eq_false (by omega)
    have rest : ∀ (K : Heap) (f' : Nat → AV) (V : AV), SrcR K V (f ++ h) → f' 1 = int pages → f' 7 = int l.length → f' 50 = V → f' 51 = int (f ++ h).length → f' 52 = int 0 →
        AW ftB (.loop c55L1) (mkE 73 f') (hx K []) (blockA 2 (thenA (fun e H => AW ftB c55R2 e H (RetP [.tmp 6] (.sc (.bool (few11 f h pages l))))) (RetP [.tmp 6] (.sc (.bool (few11 f h pages l)))))) := fun K f' V hV u1 u7 u50 u51 u52 => by
      refine l55b (f ++ h) (by rw [List.length_append]; omega) V (int pages) (int l.length) (fun f2 K2 hm z1 z7 => ?_) (fun f2 K2 hm z6 => ?_) (f ++ h).length 0 K f' (by simp) rfl hV u1 u7 u50 u51 u52
      · by_cases g1 : l.length ≤ 60
        · have d1 : ((l.length : Int) ≤ 60) = True := eq_true (by omega)
          by_cases g2 : pages ≤ 600
          · have e : few11 f h pages l = true := by unfold few11; rw [ho, hm, decide_eq_true g1, decide_eq_true g2]; rfl
            rw [e]
            unfold c55R2
            simp only [↓vp, vq0, vq1, vq2, vq3, vr0, vr1, vr2, vr3, vr4, vr5, vr6, vr7, vr8, vr9, vr10, vr11, vr12, vr13, vr14, vr15, vr16, vr17, vr18, vr19, vr20, vr21, vr22, vr23, vr24, vr25, vr26, vr27, vr28, vr29, vr30, vr31, vr32, vr33, vr34, opS, fpS, extO, okP, pack, nAl, allocA, shId, leaves, fillA, fillR, splice, Nat.reduceLT, Nat.reduceEqDiff, Nat.reduceLeDiff, Nat.reduceAdd, Nat.reduceSub, Nat.reduceMul, Int.reduceBEq, Int.reduceBNe, Int.reduceLT, Int.reduceLE, Int.reduceEq, reduceIte, reduceCtorEq, da, int, boolA, RetP_go, resT, resC, resN, retV1, retV2, retV3, retV0, frzFZ, takeM, Option.some.injEq, z1, z7, d1, eq_true g2]
          · have e : few11 f h pages l = false := by unfold few11; rw [ho, hm, decide_eq_true g1, decide_eq_false g2]; rfl
            rw [e]
            unfold c55R2
            simp only [↓vp, vq0, vq1, vq2, vq3, vr0, vr1, vr2, vr3, vr4, vr5, vr6, vr7, vr8, vr9, vr10, vr11, vr12, vr13, vr14, vr15, vr16, vr17, vr18, vr19, vr20, vr21, vr22, vr23, vr24, vr25, vr26, vr27, vr28, vr29, vr30, vr31, vr32, vr33, vr34, opS, fpS, extO, okP, pack, nAl, allocA, shId, leaves, fillA, fillR, splice, Nat.reduceLT, Nat.reduceEqDiff, Nat.reduceLeDiff, Nat.reduceAdd, Nat.reduceSub, Nat.reduceMul, Int.reduceBEq, Int.reduceBNe, Int.reduceLT, Int.reduceLE, Int.reduceEq, reduceIte, reduceCtorEq, da, int, boolA, RetP_go, resT, resC, resN, retV1, retV2, retV3, retV0, frzFZ, takeM, Option.some.injEq, z1, z7, d1, eq_false g2]
        · have d1 : ((l.length : Int) ≤ 60) = False := eq_false (by omega)
          have e : few11 f h pages l = false := by unfold few11; rw [ho, hm, decide_eq_false g1]; rfl
          rw [e]
          unfold c55R2
          simp only [↓vp, vq0, vq1, vq2, vq3, vr0, vr1, vr2, vr3, vr4, vr5, vr6, vr7, vr8, vr9, vr10, vr11, vr12, vr13, vr14, vr15, vr16, vr17, vr18, vr19, vr20, vr21, vr22, vr23, vr24, vr25, vr26, vr27, vr28, vr29, vr30, vr31, vr32, vr33, vr34, opS, fpS, extO, okP, pack, nAl, allocA, shId, leaves, fillA, fillR, splice, Nat.reduceLT, Nat.reduceEqDiff, Nat.reduceLeDiff, Nat.reduceAdd, Nat.reduceSub, Nat.reduceMul, Int.reduceBEq, Int.reduceBNe, Int.reduceLT, Int.reduceLE, Int.reduceEq, reduceIte, reduceCtorEq, da, int, boolA, RetP_go, resT, resC, resN, retV1, retV2, retV3, retV0, frzFZ, takeM, Option.some.injEq, z1, z7, d1]
      · have e : few11 f h pages l = false := by unfold few11; rw [ho, hm]; rfl
        rw [e]
        simp only [↓vp, vq0, vq1, vq2, vq3, vr0, vr1, vr2, vr3, vr4, vr5, vr6, vr7, vr8, vr9, vr10, vr11, vr12, vr13, vr14, vr15, vr16, vr17, vr18, vr19, vr20, vr21, vr22, vr23, vr24, vr25, vr26, vr27, vr28, vr29, vr30, vr31, vr32, vr33, vr34, opS, fpS, extO, okP, pack, nAl, allocA, shId, leaves, fillA, fillR, splice, Nat.reduceLT, Nat.reduceEqDiff, Nat.reduceLeDiff, Nat.reduceAdd, Nat.reduceSub, Nat.reduceMul, Int.reduceBEq, Int.reduceBNe, Int.reduceLT, Int.reduceLE, Int.reduceEq, reduceIte, reduceCtorEq, da, int, boolA, RetP_go, resT, resC, resN, retV1, retV2, retV3, retV0, frzFZ, takeM, Option.some.injEq, z6]
    have t1 : (f.length * 16 ≤ 140737488355328) = True := eq_true (by omega)
    have t2 : ((f.length + h.length) * 16 ≤ 140737488355328) = True := eq_true (by omega)
    have t3 : allSz 2 (h.map runC) = true := sz h
    have sp0 : splice (f.map runC) f.length [] = f.map runC := by simp [splice]
    have dp : (f.map runC).drop f.length = [] := List.drop_eq_nil_of_le (by simp)
    have tk : (f.map runC).take f.length = f.map runC := List.take_of_length_le (by simp)
    by_cases c1 : f = []
    · subst c1
      by_cases c2 : h = []
      · subst c2
        simp only [↓vp, vq0, vq1, vq2, vq3, vr0, vr1, vr2, vr3, vr4, vr5, vr6, vr7, vr8, vr9, vr10, vr11, vr12, vr13, vr14, vr15, vr16, vr17, vr18, vr19, vr20, vr21, vr22, vr23, vr24, vr25, vr26, vr27, vr28, vr29, vr30, vr31, vr32, vr33, vr34, opS, fpS, extO, okP, pack, nAl, allocA, shId, leaves, fillA, fillR, splice, Nat.reduceLT, Nat.reduceEqDiff, Nat.reduceLeDiff, Nat.reduceAdd, Nat.reduceSub, Nat.reduceMul, Int.reduceBEq, Int.reduceBNe, Int.reduceLT, Int.reduceLE, Int.reduceEq, reduceIte, reduceCtorEq, da, int, boolA, dr, e1, e3, e7, q0, r0, m0, sp, xf, exFQ, mkFQ_n, le, p0, p1]
        rw [← hx_nil (hx K1 _)]
        refine rest _ _ _ (fun i hi => absurd hi (by simp)) ?_ ?_ rfl ?_ ?_
        all_goals first | rfl | (simp only [↓vp, vq0, vq1, vq2, vq3, vr0, vr1, vr2, vr3, vr4, vr5, vr6, vr7, vr8, vr9, vr10, vr11, vr12, vr13, vr14, vr15, vr16, vr17, vr18, vr19, vr20, vr21, vr22, vr23, vr24, vr25, vr26, vr27, vr28, vr29, vr30, vr31, vr32, vr33, vr34, opS, fpS, extO, okP, pack, nAl, allocA, shId, leaves, fillA, fillR, splice, Nat.reduceLT, Nat.reduceEqDiff, Nat.reduceLeDiff, Nat.reduceAdd, Nat.reduceSub, Nat.reduceMul, Int.reduceBEq, Int.reduceBNe, Int.reduceLT, Int.reduceLE, Int.reduceEq, reduceIte, reduceCtorEq, da, int, boolA, e1, e7]; done) | (simp only [↓vp, vq0, vq1, vq2, vq3, vr0, vr1, vr2, vr3, vr4, vr5, vr6, vr7, vr8, vr9, vr10, vr11, vr12, vr13, vr14, vr15, vr16, vr17, vr18, vr19, vr20, vr21, vr22, vr23, vr24, vr25, vr26, vr27, vr28, vr29, vr30, vr31, vr32, vr33, vr34, opS, fpS, extO, okP, pack, nAl, allocA, shId, leaves, fillA, fillR, splice, Nat.reduceLT, Nat.reduceEqDiff, Nat.reduceLeDiff, Nat.reduceAdd, Nat.reduceSub, Nat.reduceMul, Int.reduceBEq, Int.reduceBNe, Int.reduceLT, Int.reduceLE, Int.reduceEq, reduceIte, reduceCtorEq, da, int, boolA, e1, e7, List.length_append, List.nil_append, List.append_nil]; done) | (simp only [↓vp, vq0, vq1, vq2, vq3, vr0, vr1, vr2, vr3, vr4, vr5, vr6, vr7, vr8, vr9, vr10, vr11, vr12, vr13, vr14, vr15, vr16, vr17, vr18, vr19, vr20, vr21, vr22, vr23, vr24, vr25, vr26, vr27, vr28, vr29, vr30, vr31, vr32, vr33, vr34, opS, fpS, extO, okP, pack, nAl, allocA, shId, leaves, fillA, fillR, splice, Nat.reduceLT, Nat.reduceEqDiff, Nat.reduceLeDiff, Nat.reduceAdd, Nat.reduceSub, Nat.reduceMul, Int.reduceBEq, Int.reduceBNe, Int.reduceLT, Int.reduceLE, Int.reduceEq, reduceIte, reduceCtorEq, da, int, boolA, e1, e7]; rfl)
      · have a2' := fun nid H => a2 nid H c2
        simp only [↓vp, vq0, vq1, vq2, vq3, vr0, vr1, vr2, vr3, vr4, vr5, vr6, vr7, vr8, vr9, vr10, vr11, vr12, vr13, vr14, vr15, vr16, vr17, vr18, vr19, vr20, vr21, vr22, vr23, vr24, vr25, vr26, vr27, vr28, vr29, vr30, vr31, vr32, vr33, vr34, opS, fpS, extO, okP, pack, nAl, allocA, shId, leaves, fillA, fillR, splice, Nat.reduceLT, Nat.reduceEqDiff, Nat.reduceLeDiff, Nat.reduceAdd, Nat.reduceSub, Nat.reduceMul, Int.reduceBEq, Int.reduceBNe, Int.reduceLT, Int.reduceLE, Int.reduceEq, reduceIte, reduceCtorEq, da, int, boolA, dr, e1, e3, e7, q0, r0, m0, sp, xf, exFQ, mkFQ_n, le, ls, p0, p1, a2']
        rw [← hx_nil (hx K1 _)]
        refine rest _ _ _ (src_sl (fz := false) (hx_get _ _ 2)) ?_ ?_ rfl ?_ ?_
        all_goals first | rfl | (simp only [↓vp, vq0, vq1, vq2, vq3, vr0, vr1, vr2, vr3, vr4, vr5, vr6, vr7, vr8, vr9, vr10, vr11, vr12, vr13, vr14, vr15, vr16, vr17, vr18, vr19, vr20, vr21, vr22, vr23, vr24, vr25, vr26, vr27, vr28, vr29, vr30, vr31, vr32, vr33, vr34, opS, fpS, extO, okP, pack, nAl, allocA, shId, leaves, fillA, fillR, splice, Nat.reduceLT, Nat.reduceEqDiff, Nat.reduceLeDiff, Nat.reduceAdd, Nat.reduceSub, Nat.reduceMul, Int.reduceBEq, Int.reduceBNe, Int.reduceLT, Int.reduceLE, Int.reduceEq, reduceIte, reduceCtorEq, da, int, boolA, e1, e7]; done) | (simp only [↓vp, vq0, vq1, vq2, vq3, vr0, vr1, vr2, vr3, vr4, vr5, vr6, vr7, vr8, vr9, vr10, vr11, vr12, vr13, vr14, vr15, vr16, vr17, vr18, vr19, vr20, vr21, vr22, vr23, vr24, vr25, vr26, vr27, vr28, vr29, vr30, vr31, vr32, vr33, vr34, opS, fpS, extO, okP, pack, nAl, allocA, shId, leaves, fillA, fillR, splice, Nat.reduceLT, Nat.reduceEqDiff, Nat.reduceLeDiff, Nat.reduceAdd, Nat.reduceSub, Nat.reduceMul, Int.reduceBEq, Int.reduceBNe, Int.reduceLT, Int.reduceLE, Int.reduceEq, reduceIte, reduceCtorEq, da, int, boolA, e1, e7, List.length_append, List.nil_append, List.append_nil]; done) | (simp only [↓vp, vq0, vq1, vq2, vq3, vr0, vr1, vr2, vr3, vr4, vr5, vr6, vr7, vr8, vr9, vr10, vr11, vr12, vr13, vr14, vr15, vr16, vr17, vr18, vr19, vr20, vr21, vr22, vr23, vr24, vr25, vr26, vr27, vr28, vr29, vr30, vr31, vr32, vr33, vr34, opS, fpS, extO, okP, pack, nAl, allocA, shId, leaves, fillA, fillR, splice, Nat.reduceLT, Nat.reduceEqDiff, Nat.reduceLeDiff, Nat.reduceAdd, Nat.reduceSub, Nat.reduceMul, Int.reduceBEq, Int.reduceBNe, Int.reduceLT, Int.reduceLE, Int.reduceEq, reduceIte, reduceCtorEq, da, int, boolA, e1, e7]; rfl)
    · have a1' := fun nid H => a1 nid H c1
      by_cases c2 : h = []
      · subst c2
        have nl := Nat.add_zero f.length
        simp only [↓vp, vq0, vq1, vq2, vq3, vr0, vr1, vr2, vr3, vr4, vr5, vr6, vr7, vr8, vr9, vr10, vr11, vr12, vr13, vr14, vr15, vr16, vr17, vr18, vr19, vr20, vr21, vr22, vr23, vr24, vr25, vr26, vr27, vr28, vr29, vr30, vr31, vr32, vr33, vr34, opS, fpS, extO, okP, pack, nAl, allocA, shId, leaves, fillA, fillR, splice, Nat.reduceLT, Nat.reduceEqDiff, Nat.reduceLeDiff, Nat.reduceAdd, Nat.reduceSub, Nat.reduceMul, Int.reduceBEq, Int.reduceBNe, Int.reduceLT, Int.reduceLE, Int.reduceEq, reduceIte, reduceCtorEq, da, int, boolA, dr, e1, e3, e7, q0, r0, m0, sp, xf, exFQ, mkFQ_n, le, ls, p0, p1, a1', t1, t2, t3, sp0, tk, dp, List.append_nil, nl]
        rw [← hx_nil (hx K1 _)]
        refine rest _ _ _ (by rw [List.append_nil]; exact src_sl (fz := false) (hx_get _ _ 1)) ?_ ?_ rfl ?_ ?_
        all_goals first | rfl | (simp only [↓vp, vq0, vq1, vq2, vq3, vr0, vr1, vr2, vr3, vr4, vr5, vr6, vr7, vr8, vr9, vr10, vr11, vr12, vr13, vr14, vr15, vr16, vr17, vr18, vr19, vr20, vr21, vr22, vr23, vr24, vr25, vr26, vr27, vr28, vr29, vr30, vr31, vr32, vr33, vr34, opS, fpS, extO, okP, pack, nAl, allocA, shId, leaves, fillA, fillR, splice, Nat.reduceLT, Nat.reduceEqDiff, Nat.reduceLeDiff, Nat.reduceAdd, Nat.reduceSub, Nat.reduceMul, Int.reduceBEq, Int.reduceBNe, Int.reduceLT, Int.reduceLE, Int.reduceEq, reduceIte, reduceCtorEq, da, int, boolA, e1, e7]; done) | (simp only [↓vp, vq0, vq1, vq2, vq3, vr0, vr1, vr2, vr3, vr4, vr5, vr6, vr7, vr8, vr9, vr10, vr11, vr12, vr13, vr14, vr15, vr16, vr17, vr18, vr19, vr20, vr21, vr22, vr23, vr24, vr25, vr26, vr27, vr28, vr29, vr30, vr31, vr32, vr33, vr34, opS, fpS, extO, okP, pack, nAl, allocA, shId, leaves, fillA, fillR, splice, Nat.reduceLT, Nat.reduceEqDiff, Nat.reduceLeDiff, Nat.reduceAdd, Nat.reduceSub, Nat.reduceMul, Int.reduceBEq, Int.reduceBNe, Int.reduceLT, Int.reduceLE, Int.reduceEq, reduceIte, reduceCtorEq, da, int, boolA, e1, e7, List.length_append, List.nil_append, List.append_nil]; done) | (simp only [↓vp, vq0, vq1, vq2, vq3, vr0, vr1, vr2, vr3, vr4, vr5, vr6, vr7, vr8, vr9, vr10, vr11, vr12, vr13, vr14, vr15, vr16, vr17, vr18, vr19, vr20, vr21, vr22, vr23, vr24, vr25, vr26, vr27, vr28, vr29, vr30, vr31, vr32, vr33, vr34, opS, fpS, extO, okP, pack, nAl, allocA, shId, leaves, fillA, fillR, splice, Nat.reduceLT, Nat.reduceEqDiff, Nat.reduceLeDiff, Nat.reduceAdd, Nat.reduceSub, Nat.reduceMul, Int.reduceBEq, Int.reduceBNe, Int.reduceLT, Int.reduceLE, Int.reduceEq, reduceIte, reduceCtorEq, da, int, boolA, e1, e7]; rfl)
      · have nl : (f.length + h.length ≤ f.length) = False := eq_false (by have : 0 < h.length := List.length_pos_iff.2 c2; omega)
        simp only [↓vp, vq0, vq1, vq2, vq3, vr0, vr1, vr2, vr3, vr4, vr5, vr6, vr7, vr8, vr9, vr10, vr11, vr12, vr13, vr14, vr15, vr16, vr17, vr18, vr19, vr20, vr21, vr22, vr23, vr24, vr25, vr26, vr27, vr28, vr29, vr30, vr31, vr32, vr33, vr34, opS, fpS, extO, okP, pack, nAl, allocA, shId, leaves, fillA, fillR, splice, Nat.reduceLT, Nat.reduceEqDiff, Nat.reduceLeDiff, Nat.reduceAdd, Nat.reduceSub, Nat.reduceMul, Int.reduceBEq, Int.reduceBNe, Int.reduceLT, Int.reduceLE, Int.reduceEq, reduceIte, reduceCtorEq, da, int, boolA, dr, e1, e3, e7, q0, r0, m0, sp, xf, exFQ, mkFQ_n, le, ls, p0, p1, a1', t1, t2, t3, sp0, tk, nl]
        rw [← hx_nil (hx K1 _)]
        refine rest _ _ _ (by rw [← List.length_append, ← List.map_append]; exact src_sl (fz := false) (hx_get _ _ 2)) ?_ ?_ rfl ?_ ?_
        all_goals first | rfl | (simp only [↓vp, vq0, vq1, vq2, vq3, vr0, vr1, vr2, vr3, vr4, vr5, vr6, vr7, vr8, vr9, vr10, vr11, vr12, vr13, vr14, vr15, vr16, vr17, vr18, vr19, vr20, vr21, vr22, vr23, vr24, vr25, vr26, vr27, vr28, vr29, vr30, vr31, vr32, vr33, vr34, opS, fpS, extO, okP, pack, nAl, allocA, shId, leaves, fillA, fillR, splice, Nat.reduceLT, Nat.reduceEqDiff, Nat.reduceLeDiff, Nat.reduceAdd, Nat.reduceSub, Nat.reduceMul, Int.reduceBEq, Int.reduceBNe, Int.reduceLT, Int.reduceLE, Int.reduceEq, reduceIte, reduceCtorEq, da, int, boolA, e1, e7]; done) | (simp only [↓vp, vq0, vq1, vq2, vq3, vr0, vr1, vr2, vr3, vr4, vr5, vr6, vr7, vr8, vr9, vr10, vr11, vr12, vr13, vr14, vr15, vr16, vr17, vr18, vr19, vr20, vr21, vr22, vr23, vr24, vr25, vr26, vr27, vr28, vr29, vr30, vr31, vr32, vr33, vr34, opS, fpS, extO, okP, pack, nAl, allocA, shId, leaves, fillA, fillR, splice, Nat.reduceLT, Nat.reduceEqDiff, Nat.reduceLeDiff, Nat.reduceAdd, Nat.reduceSub, Nat.reduceMul, Int.reduceBEq, Int.reduceBNe, Int.reduceLT, Int.reduceLE, Int.reduceEq, reduceIte, reduceCtorEq, da, int, boolA, e1, e7, List.length_append, List.nil_append, List.append_nil]; done) | (simp only [↓vp, vq0, vq1, vq2, vq3, vr0, vr1, vr2, vr3, vr4, vr5, vr6, vr7, vr8, vr9, vr10, vr11, vr12, vr13, vr14, vr15, vr16, vr17, vr18, vr19, vr20, vr21, vr22, vr23, vr24, vr25, vr26, vr27, vr28, vr29, vr30, vr31, vr32, vr33, vr34, opS, fpS, extO, okP, pack, nAl, allocA, shId, leaves, fillA, fillR, splice, Nat.reduceLT, Nat.reduceEqDiff, Nat.reduceLeDiff, Nat.reduceAdd, Nat.reduceSub, Nat.reduceMul, Int.reduceBEq, Int.reduceBNe, Int.reduceLT, Int.reduceLE, Int.reduceEq, reduceIte, reduceCtorEq, da, int, boolA, e1, e7]; rfl)
  · have e : few11 f h pages l = false := by unfold few11; rw [hm]; rfl
    rw [e]
    simp only [↓vp, vq0, vq1, vq2, vq3, vr0, vr1, vr2, vr3, vr4, vr5, vr6, vr7, vr8, vr9, vr10, vr11, vr12, vr13, vr14, vr15, vr16, vr17, vr18, vr19, vr20, vr21, vr22, vr23, vr24, vr25, vr26, vr27, vr28, vr29, vr30, vr31, vr32, vr33, vr34, opS, fpS, extO, okP, pack, nAl, allocA, shId, leaves, fillA, fillR, splice, Nat.reduceLT, Nat.reduceEqDiff, Nat.reduceLeDiff, Nat.reduceAdd, Nat.reduceSub, Nat.reduceMul, Int.reduceBEq, Int.reduceBNe, Int.reduceLT, Int.reduceLE, Int.reduceEq, reduceIte, reduceCtorEq, da, int, boolA, RetP_go, resT, resC, resN, retV1, retV2, retV3, retV0, frzFZ, takeM, Option.some.injEq, q2]
  all_goals first | rfl | (simp only [↓vp, vq0, vq1, vq2, vq3, vr0, vr1, vr2, vr3, vr4, vr5, vr6, vr7, vr8, vr9, vr10, vr11, vr12, vr13, vr14, vr15, vr16, vr17, vr18, vr19, vr20, vr21, vr22, vr23, vr24, vr25, vr26, vr27, vr28, vr29, vr30, vr31, vr32, vr33, vr34, opS, fpS, extO, okP, pack, nAl, allocA, shId, leaves, fillA, fillR, splice, Nat.reduceLT, Nat.reduceEqDiff, Nat.reduceLeDiff, Nat.reduceAdd, Nat.reduceSub, Nat.reduceMul, Int.reduceBEq, Int.reduceBNe, Int.reduceLT, Int.reduceLE, Int.reduceEq, reduceIte, reduceCtorEq, da, int, boolA]; done)
end Go.VI

set_option linter.unusedVariables false
set_option linter.unusedSimpArgs false
set_option maxRecDepth 100000
namespace Go.VI
open Go.Proofs
variable {W : World}
theorem bulk_one {H : Type} (d : DataW H) : 1 ≤ Ytoinghjainpkfaa.Rows.uptoBulk d := by
  cases d with
  | lit l => cases l <;> simp [Ytoinghjainpkfaa.Rows.uptoBulk]
  | nil => simp [Ytoinghjainpkfaa.Rows.uptoBulk]
  | ptr d => simp [Ytoinghjainpkfaa.Rows.uptoBulk]
  | slice elems spare => simp [Ytoinghjainpkfaa.Rows.uptoBulk]
  | agg parts => simp [Ytoinghjainpkfaa.Rows.uptoBulk]
  | iface t d => simp [Ytoinghjainpkfaa.Rows.uptoBulk]
  | map entries => simp [Ytoinghjainpkfaa.Rows.uptoBulk]
  | held h => simp [Ytoinghjainpkfaa.Rows.uptoBulk]
theorem bulk_len {H : Type} (l : List (DataW H)) : l.length ≤ Ytoinghjainpkfaa.Rows.uptoBulkAll l := by
  induction l with
  | nil => simp [Ytoinghjainpkfaa.Rows.uptoBulkAll]
  | cons x r ih => have := bulk_one x; simp only [Ytoinghjainpkfaa.Rows.uptoBulkAll, List.length_cons]; omega
theorem lst_len {F : Fz} {rows : List (List AV)} {A : Option Addr} {n cap : Nat} (h : VF F (.lst rows) (.slice A n cap)) : rows.length = n := by
  cases h
  rfl
theorem lst_bulk {H : Type} {enc : TypeId × Value → H} {base : Nat} {spare : Nat → Bool} {held : Bool} {fuel : Nat} {v : Value} {x : DataW H × List MemPlace} {l : List RunM}
    (h : DataW.trod enc Try.prog W base spare held fuel 62 [v] = some x) (hc : CVF (frzW W) [encR l] [v]) : l.length ≤ Ytoinghjainpkfaa.Rows.uptoBulk x.1 := by
  have hv := (hc.2 0 _ rfl).2
  rcases DataW.trod_slice Try.underlying62 h with ⟨e, rfl⟩ | ⟨a, len, cap, elems, rest, n, rfl, e, rfl, hb, hl, hm, hlen, hel, _, _⟩
  · cases e
    have := lst_len hv
    rw [List.length_map] at this
    omega
  · cases e
    have := lst_len hv
    rw [List.length_map] at this
    have h2 := bulk_len (elems.map (·.1))
    rw [List.length_map] at h2
    simp only [Ytoinghjainpkfaa.Rows.uptoBulk]
    omega
/-- A state. -/
theorem stU {H : Type} {enc : TypeId × Value → H} {base : Nat} {spare : Nat → Bool} {held : Bool} {fuel : Nat} {cs : List Value} {x : DataW H × List MemPlace} (h : DataW.trod enc Try.prog W base spare held fuel 92 cs = some x)
    (hw : ∀ n ∈ x.1.weights Try.prog 92, n ≤ reachBytes) (hb : Ytoinghjainpkfaa.Rows.uptoBulk x.1 ≤ 1048576) : ∃ l : List RunM × List RunM, (l.1.length ≤ 1048576 ∧ l.2.length ≤ 1048576) ∧ CVF (frzW W) [encR l.1, encR l.2] cs := by
  obtain ⟨y0, y1, n, rfl, hl, h0, h1⟩ := ChangeShapes.trod_struct2 Try.underlying92 h
  have c92 : Try.prog.cellsOf 92 = 2 := by kernel_rfl
  have c62 : Try.prog.cellsOf 62 = 1 := by kernel_rfl
  rw [c92] at hl
  match cs, hl with
  | [v0, v1], _ =>
    simp only [c62, List.drop_zero, List.take_succ_cons, List.take_zero, List.drop_succ_cons] at h0 h1
    have hw' : ∀ k ∈ DataW.weightsEach Try.prog [62, 62] [y0.1, y1.1], k ≤ reachBytes := fun k hk => hw k (by simpa [DataW.weights, Try.underlying92] using hk)
    simp only [DataW.weightsEach, List.mem_append] at hw'
    obtain ⟨_, ⟨f, rfl, _⟩, q0⟩ := rdR W H enc base spare held n _ _ h0 fun k hk => hw' k (.inl hk)
    obtain ⟨_, ⟨g, rfl, _⟩, q1⟩ := rdR W H enc base spare held n _ _ h1 fun k hk => hw' k (.inr (.inl hk))
    have b0 := lst_bulk h0 q0
    have b1 := lst_bulk h1 q1
    simp only [Ytoinghjainpkfaa.Rows.uptoBulk, Ytoinghjainpkfaa.Rows.uptoBulkAll] at hb
    exact ⟨(f, g), ⟨by simp only; omega, by simp only; omega⟩, q0.cons q1⟩
variable (W)
end Go.VI

set_option linter.unusedVariables false
set_option linter.unusedSimpArgs false
set_option maxRecDepth 100000
namespace Go.Proofs
open Go.Shelf
def Try.mapsClone_ren : Go.Shelf.Ren := ⟨fun | 5 => 132 | 7 => 168 | n => n, fun | 20 => 20 | 23 => 163 | 25 => 3 | 3 => 68 | 4 => 4 | n => n, fun | n => n⟩
theorem Try.mapsClone : Go.Proofs.SlLaysW.n5 Try.prog Try.mapsClone_ren := {
  mixed := by kernel_rfl
  f5 := ⟨Try.f132.name, by decide, Try.func132.trans (congrArg some (by kernel_rfl))⟩
  f7 := Try.func168.trans (congrArg some (by kernel_rfl))
  t4 := Try.underlying4
  a4 := Try.isAgg4
  z4 := Try.sizeOf4
  v4 := Try.zeroValue4
  t20 := Try.underlying20
  a20 := Try.isAgg20
  z20 := Try.sizeOf20
  v20 := Try.zeroValue20
  t23 := Try.underlying163
  a23 := Try.isAgg163
  z23 := Try.sizeOf163
  v23 := Try.zeroValue163 }
end Go.Proofs
namespace Go.VI
open Go.Proofs Go.Shelf
theorem cloMP_ok : PrimOk Go.Proofs.Try.prog 132 cloMP := by
  intro args H H' r h m F w vs hI hv
  unfold cloMP at h
  split at h
  rotate_left
  · cases h
  rename_i mid
  split at h
  rotate_left
  · cases h
  rename_i kd es bs ck hg
  cases h
  obtain ⟨mb, hm, he⟩ := vr_mp (hv.val 0 _ rfl)
  obtain rfl : vs = #[.map (some mb.cb)] := by
    have hl := hv.len
    refine Array.ext (by simpa using hl) fun i h1 h2 => ?_
    simp at h2
    subst h2
    simpa [Array.getD_eq_getD_getElem?, h1] using he
  obtain ⟨ens, h1, h2, h2b, h3⟩ := hI.blk mid mb _ hm hg
  obtain ⟨q1, q2⟩ := Inv.push hI.free hI (wd := w) rfl rfl rfl rfl (.map ens ck) (.mpb kd es bs ck) 0 0 0 ⟨ens, heap_alloc_at, h2, h2b, fun i k v hi => by
    obtain ⟨en, c1, c2, c3, c4, c5⟩ := h3 i k v hi
    exact ⟨en, c1, c2.mono (mset_le _ hI.free.no) (FLe.refl F), c3, c4.mono (mset_le _ hI.free.no) (FLe.refl F), c5⟩⟩
  have hput : H.put H.next (.mpb kd es bs ck) = hx H [.mpb kd es bs ck] := by
    have := hx_put0 H [] (.mpb kd es bs ck)
    rw [hx_nil] at this
    rw [this]
    rfl
  rw [hput] at q1
  refine .inl ⟨Try.mapsClone.f5.enters rfl _ _, ?_⟩
  refine (AnyW.maps_Clone Try.mapsClone mb.cb ens ck w h1).mono fun e w' ⟨he, hw⟩ => ?_
  subst hw
  exact ⟨_, _, F, he, .mp (mset_self _ _ _), q1, q2, ⟨fun id mb' x => by
    rcases mset_cases x with ⟨rfl, _⟩ | ⟨_, x⟩
    · exact .inr (Nat.le_refl _)
    · exact .inl x, by rw [hx_next]; omega⟩⟩
end Go.VI

set_option linter.unusedVariables false
set_option maxRecDepth 100000
namespace Go.VI
theorem fc121 : compF Go.Proofs.Try.prog 121 = some (3, r121, c121) := by kernel_rfl
theorem fn121 : (Go.Proofs.Try.prog.funcs[121]?).all (fun fn => !(fn.name == "runtime.NumGoroutine")) = true := by kernel_rfl
theorem fc122 : compF Go.Proofs.Try.prog 122 = some (14, r122, c122) := by kernel_rfl
theorem fn122 : (Go.Proofs.Try.prog.funcs[122]?).all (fun fn => !(fn.name == "runtime.NumGoroutine")) = true := by kernel_rfl
theorem fc133 : compF Go.Proofs.Try.prog 133 = some (7, r133, c133) := by kernel_rfl
theorem fn133 : (Go.Proofs.Try.prog.funcs[133]?).all (fun fn => !(fn.name == "runtime.NumGoroutine")) = true := by kernel_rfl
theorem fc124 : compF Go.Proofs.Try.prog 124 = some (9, r124, c124) := by kernel_rfl
theorem fn124 : (Go.Proofs.Try.prog.funcs[124]?).all (fun fn => !(fn.name == "runtime.NumGoroutine")) = true := by kernel_rfl
theorem fc55 : compF Go.Proofs.Try.prog 55 = some (73, r55, c55) := by kernel_rfl
theorem fn55 : (Go.Proofs.Try.prog.funcs[55]?).all (fun fn => !(fn.name == "runtime.NumGoroutine")) = true := by kernel_rfl
theorem fc56 : compF Go.Proofs.Try.prog 56 = some (97, r56, c56) := by kernel_rfl
theorem fn56 : (Go.Proofs.Try.prog.funcs[56]?).all (fun fn => !(fn.name == "runtime.NumGoroutine")) = true := by kernel_rfl
theorem fc57 : compF Go.Proofs.Try.prog 57 = some (60, r57, c57) := by kernel_rfl
theorem fn57 : (Go.Proofs.Try.prog.funcs[57]?).all (fun fn => !(fn.name == "runtime.NumGoroutine")) = true := by kernel_rfl
theorem fc58 : compF Go.Proofs.Try.prog 58 = some (37, r58, c58) := by kernel_rfl
theorem fn58 : (Go.Proofs.Try.prog.funcs[58]?).all (fun fn => !(fn.name == "runtime.NumGoroutine")) = true := by kernel_rfl
theorem fc59 : compF Go.Proofs.Try.prog 59 = some (7, r59, c59) := by kernel_rfl
theorem fn59 : (Go.Proofs.Try.prog.funcs[59]?).all (fun fn => !(fn.name == "runtime.NumGoroutine")) = true := by kernel_rfl
theorem fc60 : compF Go.Proofs.Try.prog 60 = some (8, r60, c60) := by kernel_rfl
theorem fn60 : (Go.Proofs.Try.prog.funcs[60]?).all (fun fn => !(fn.name == "runtime.NumGoroutine")) = true := by kernel_rfl
theorem fc61 : compF Go.Proofs.Try.prog 61 = some (68, r61, c61) := by kernel_rfl
theorem fn61 : (Go.Proofs.Try.prog.funcs[61]?).all (fun fn => !(fn.name == "runtime.NumGoroutine")) = true := by kernel_rfl
theorem fc62 : compF Go.Proofs.Try.prog 62 = some (18, r62, c62) := by kernel_rfl
theorem fn62 : (Go.Proofs.Try.prog.funcs[62]?).all (fun fn => !(fn.name == "runtime.NumGoroutine")) = true := by kernel_rfl
theorem fc63 : compF Go.Proofs.Try.prog 63 = some (5, r63, c63) := by kernel_rfl
theorem fn63 : (Go.Proofs.Try.prog.funcs[63]?).all (fun fn => !(fn.name == "runtime.NumGoroutine")) = true := by kernel_rfl
theorem fc64 : compF Go.Proofs.Try.prog 64 = some (58, r64, c64) := by kernel_rfl
theorem fn64 : (Go.Proofs.Try.prog.funcs[64]?).all (fun fn => !(fn.name == "runtime.NumGoroutine")) = true := by kernel_rfl
theorem fc65 : compF Go.Proofs.Try.prog 65 = some (25, r65, c65) := by kernel_rfl
theorem fn65 : (Go.Proofs.Try.prog.funcs[65]?).all (fun fn => !(fn.name == "runtime.NumGoroutine")) = true := by kernel_rfl
theorem fc74 : compF Go.Proofs.Try.prog 74 = some (23, r74, c74) := by kernel_rfl
theorem fn74 : (Go.Proofs.Try.prog.funcs[74]?).all (fun fn => !(fn.name == "runtime.NumGoroutine")) = true := by kernel_rfl
theorem fc118 : compF Go.Proofs.Try.prog 118 = some (19, r118, c118) := by kernel_rfl
theorem fn118 : (Go.Proofs.Try.prog.funcs[118]?).all (fun fn => !(fn.name == "runtime.NumGoroutine")) = true := by kernel_rfl
theorem fc119 : compF Go.Proofs.Try.prog 119 = some (44, r119, c119) := by kernel_rfl
theorem fn119 : (Go.Proofs.Try.prog.funcs[119]?).all (fun fn => !(fn.name == "runtime.NumGoroutine")) = true := by kernel_rfl
theorem fc166 : compF Go.Proofs.Try.prog 166 = some (22, r166, c166) := by kernel_rfl
theorem fn166 : (Go.Proofs.Try.prog.funcs[166]?).all (fun fn => !(fn.name == "runtime.NumGoroutine")) = true := by kernel_rfl
theorem fc120 : compF Go.Proofs.Try.prog 120 = some (25, r120, c120) := by kernel_rfl
theorem fn120 : (Go.Proofs.Try.prog.funcs[120]?).all (fun fn => !(fn.name == "runtime.NumGoroutine")) = true := by kernel_rfl
theorem fc123 : compF Go.Proofs.Try.prog 123 = some (19, r123, c123) := by kernel_rfl
theorem fn123 : (Go.Proofs.Try.prog.funcs[123]?).all (fun fn => !(fn.name == "runtime.NumGoroutine")) = true := by kernel_rfl
theorem fc73 : compF Go.Proofs.Try.prog 73 = some (44, r73, c73) := by kernel_rfl
theorem fn73 : (Go.Proofs.Try.prog.funcs[73]?).all (fun fn => !(fn.name == "runtime.NumGoroutine")) = true := by kernel_rfl
theorem ftK_ok : FTOk Go.Proofs.Try.prog ftK := by
  intro k d h
  unfold ftK at h
  split at h
  · cases h; exact go_ok fc121 fn121
  · cases h; exact go_ok fc122 fn122
  · cases h; exact go_ok fc133 fn133
  · cases h; exact go_ok fc124 fn124
  · cases h
theorem ftU_ok : FTOk Go.Proofs.Try.prog ftU := by
  intro k d h
  unfold ftU at h
  split at h
  · cases h; exact goP_ok follows ftM_ok ⟨_, _, _, rfl⟩
  · cases h; exact cloF_ok follows g111
  · cases h; exact cloMP_ok
  · cases h; exact roP_ok (goP_ok follows ftK_ok ⟨_, _, _, rfl⟩)
  · cases h; exact roP_ok (goP_ok follows ftK_ok ⟨_, _, _, rfl⟩)
  · cases h; exact roP_ok (goP_ok follows ftK_ok ⟨_, _, _, rfl⟩)
  · cases h; exact roP_ok (goP_ok follows ftK_ok ⟨_, _, _, rfl⟩)
  · cases h
theorem pp120 : PrimOk Go.Proofs.Try.prog 120 unionP := slF_ok follows ftU_ok (go_ok fc120 fn120) unionP_sl
theorem pp123 : PrimOk Go.Proofs.Try.prog 123 delP' := slF_ok follows ftU_ok (go_ok fc123 fn123) delP'_sl
theorem pp73 : PrimOk Go.Proofs.Try.prog 73 copyP := slF_ok follows ftU_ok (go_ok fc73 fn73) copyP_sl
theorem ftB_ok : FTOk Go.Proofs.Try.prog ftB := by
  intro k d h
  unfold ftB at h
  split at h
  · cases h; exact goP_ok follows ftM_ok ⟨_, _, _, rfl⟩
  · cases h; exact goP_ok follows ftM_ok ⟨_, _, _, rfl⟩
  · cases h; exact goP_ok follows ftM_ok ⟨_, _, _, rfl⟩
  · cases h; exact goP_ok follows ftM_ok ⟨_, _, _, rfl⟩
  · cases h; exact goP_ok follows ftM_ok ⟨_, _, _, rfl⟩
  · cases h; exact goP_ok follows ftM_ok ⟨_, _, _, rfl⟩
  · cases h; exact goP_ok follows ftM_ok ⟨_, _, _, rfl⟩
  · cases h; exact goP_ok follows ftM_ok ⟨_, _, _, rfl⟩
  · cases h; exact cloF_ok follows g111
  · cases h; exact pp120
  · cases h; exact pp123
  · cases h; exact pp73
  · cases h; exact go_ok fc55 fn55
  · cases h; exact go_ok fc56 fn56
  · cases h; exact go_ok fc57 fn57
  · cases h; exact go_ok fc58 fn58
  · cases h; exact go_ok fc59 fn59
  · cases h; exact go_ok fc60 fn60
  · cases h; exact go_ok fc61 fn61
  · cases h; exact go_ok fc62 fn62
  · cases h; exact go_ok fc63 fn63
  · cases h; exact go_ok fc64 fn64
  · cases h; exact go_ok fc65 fn65
  · cases h; exact go_ok fc74 fn74
  · cases h; exact go_ok fc118 fn118
  · cases h; exact go_ok fc119 fn119
  · cases h; exact go_ok fc166 fn166
  · cases h
end Go.VI

set_option linter.unusedVariables false
set_option linter.unusedSimpArgs false
set_option maxRecDepth 100000
namespace Go.VI
/-- Who holds a page: -2 nobody's, or used; -1 free; else a transaction. -/
structure PRel (p : PoolM) (w : Int → Int) : Prop where
  lo : 2 ≤ p.pages
  le : p.pages ≤ p.limit
  hi : p.limit ≤ 16384
  rf : rightM p.free = true
  rh : ∀ y ∈ p.held, rightM y.2 = true
  free : ∀ k, inR p.free k = true ↔ w k = -1
  key : ∀ y ∈ p.held, 0 ≤ y.1
  held : ∀ y ∈ p.held, ∀ k, inR y.2 k = true ↔ w k = y.1
  cov : ∀ k, 0 ≤ w k → ∃ y ∈ p.held, y.1 = w k
  rg : ∀ k, w k ≠ -2 → 2 ≤ k ∧ k < p.pages
  ge : ∀ k, -2 ≤ w k
theorem endM_gt {x : RunM} (h : mayM x = true) : x.1 < endM x := by have := mayM_iff.1 h; unfold endM; omega
theorem in_last {x : RunM} {l : List RunM} (hx : x ∈ l) (h : mayM x = true) : inR l (endM x - 1) = true := inR_t.2 ⟨x, hx, by have := endM_gt h; omega, by omega⟩
theorem in_first {x : RunM} {l : List RunM} (hx : x ∈ l) (h : mayM x = true) : inR l x.1 = true := inR_t.2 ⟨x, hx, by omega, endM_gt h⟩
theorem put_at {t : Int} {u : List RunM} : ∀ {hd : HeldM} {y : Int × List RunM}, y ∈ hd → (hd.map (·.1)).Nodup → y.1 ≠ t → y ∈ putO t u hd
  | [], y, hy, _, _ => by cases hy
  | x :: hd, y, hy, hn, hne => by
    unfold putO
    rw [List.map_cons, List.nodup_cons] at hn
    split
    · rename_i e
      have e : t = x.1 := by simpa using e
      rcases List.mem_cons.1 hy with rfl | hy
      · exact absurd e.symm hne
      · simp [hy]
    · rcases List.mem_cons.1 hy with rfl | hy
      · simp
      · exact List.mem_cons.2 (.inr (put_at hy hn.2 hne))
theorem put_key {t : Int} {u : List RunM} : ∀ {hd : HeldM}, (t, u) ∈ putO t u hd
  | [] => by simp [putO]
  | x :: hd => by
    unfold putO
    split
    · simp
    · exact List.mem_cons.2 (.inr put_key)
theorem put_only {t : Int} {u : List RunM} : ∀ {hd : HeldM}, (hd.map (·.1)).Nodup → ∀ {y : Int × List RunM}, y ∈ putO t u hd → y.1 = t → y.2 = u
  | [], _, y, hy, e => by
    simp [putO] at hy
    rw [hy]
  | x :: hd, hn, y, hy, e => by
    unfold putO at hy
    rw [List.map_cons, List.nodup_cons] at hn
    split at hy
    · rename_i e'
      have e' : t = x.1 := by simpa using e'
      rcases List.mem_cons.1 hy with rfl | hy
      · rfl
      · exact absurd (by rw [← e', ← e]; exact List.mem_map_of_mem hy) hn.1
    · rename_i e'
      rcases List.mem_cons.1 hy with rfl | hy
      · rw [e] at e'; simp at e'
      · exact put_only hn.2 hy e
section
variable {p : PoolM} {w : Int → Int} (h : PRel p w)
include h
theorem PRel.ok : PoolOk p := by
  refine ⟨h.lo, h.le, h.hi, fun x hx => ?_, fun y hy x hx => ?_⟩
  · have hm := (right_iff.1 h.rf).1 x hx
    have := h.rg _ (by rw [(h.free _).1 (in_last hx hm)]; decide)
    omega
  · have hm := (right_iff.1 (h.rh y hy)).1 x hx
    have := h.rg _ (by rw [(h.held y hy _).1 (in_last hx hm)]; have := h.key y hy; omega)
    omega
theorem PRel.sel (hb : Int → Bool) (k : Int) : inR (unionSel hb p.held) k = true ↔ 0 ≤ w k ∧ hb (w k) = true := by
  rw [(unionSel_ok hb p.held).2]
  constructor
  · rintro ⟨y, hy, h1, h2⟩
    rw [clean_of (h.rh y hy), h.held y hy] at h2
    rw [h2]
    exact ⟨h.key y hy, h1⟩
  · rintro ⟨h1, h2⟩
    obtain ⟨y, hy, e⟩ := h.cov k h1
    exact ⟨y, hy, by rw [e]; exact h2, by rw [clean_of (h.rh y hy), h.held y hy, e]⟩
theorem PRel.all (k : Int) : inR (unionSel (fun _ => true) p.held) k = true ↔ 0 ≤ w k := by
  rw [h.sel]
  simp
theorem PRel.get {t : Int} (ht : 0 ≤ t) : rightM ((getO t p.held).getD []) = true ∧ ∀ k, inR ((getO t p.held).getD []) k = true ↔ w k = t := by
  cases e : getO t p.held with
  | some l => exact ⟨h.rh _ (getO_mem e), fun k => h.held _ (getO_mem e) k⟩
  | none =>
    refine ⟨rfl, fun k => ⟨fun q => absurd (show inR [] k = true from q) (by simp [inR]), fun q => ?_⟩⟩
    obtain ⟨y, hy, e'⟩ := h.cov k (by omega)
    have hn : ∀ {hd : HeldM}, getO t hd = none → ∀ y ∈ hd, y.1 ≠ t := fun {hd} => by
      induction hd with
      | nil => intro _ y hy; cases hy
      | cons x hd ih =>
        intro e y hy
        unfold getO at e
        split at e
        · cases e
        · rename_i hne
          rcases List.mem_cons.1 hy with rfl | hy
          · intro q; rw [q] at hne; simp at hne
          · exact ih e y hy
    exact absurd (by omega) (hn e y hy)
theorem PRel.state (t : Int) : rightM (unionM p.free (unionSel (fun k => k != t) p.held)) = true ∧ ∀ k, inR (unionM p.free (unionSel (fun k => k != t) p.held)) k = true ↔ w k = -1 ∨ (0 ≤ w k ∧ w k ≠ t) := by
  refine ⟨(unionM_ok _ _).1, fun k => ?_⟩
  rw [(unionM_ok _ _).2, Bool.or_eq_true, clean_of h.rf, clean_of (unionSel_ok _ _).1, h.free, h.sel]
  simp
def settleW (x o : Int) (w : Int → Int) (k : Int) : Int := if 0 ≤ w k ∧ oldB x o (w k) = true then -1 else w k
theorem PRel.settle (x o : Int) : PRel (settleP p x o) (settleW x o w) := by
  have hs : ∀ k, settleW x o w k = -1 ↔ w k = -1 ∨ (0 ≤ w k ∧ oldB x o (w k) = true) := fun k => by
    unfold settleW
    split
    · rename_i q; exact ⟨fun _ => .inr q, fun _ => rfl⟩
    · rename_i q; exact ⟨.inl, fun e => e.resolve_right q⟩
  refine ⟨h.lo, h.le, h.hi, (unionM_ok _ _).1, fun y hy => h.rh y (List.mem_filter.1 hy).1, fun k => ?_, fun y hy => h.key y (List.mem_filter.1 hy).1, fun y hy k => ?_, fun k hk => ?_, fun k hk => h.rg k fun e => hk ?_, fun k => ?_⟩
  · show inR (unionM p.free (unionSel (oldB x o) p.held)) k = true ↔ _
    rw [(unionM_ok _ _).2, Bool.or_eq_true, clean_of h.rf, clean_of (unionSel_ok _ _).1, h.free, h.sel, hs]
  · obtain ⟨h1, h2⟩ := List.mem_filter.1 hy
    rw [h.held y h1 k]
    have hk := h.key y h1
    unfold settleW
    split
    · rename_i q
      constructor
      · intro e; rw [e] at q; rw [q.2] at h2; cases h2
      · intro e; omega
    · exact Iff.rfl
  · unfold settleW at hk ⊢
    split at hk
    · omega
    · rename_i q
      rw [if_neg q]
      obtain ⟨y, hy, e⟩ := h.cov k hk
      refine ⟨y, List.mem_filter.2 ⟨hy, ?_⟩, e⟩
      rw [e]
      cases e' : oldB x o (w k) with
      | true => exact absurd ⟨hk, e'⟩ q
      | false => rfl
  · unfold settleW
    rw [e, if_neg (by omega)]
  · unfold settleW
    have := h.ge k
    split <;> omega
def putW (a n t : Int) (w : Int → Int) (k : Int) : Int := if a ≤ k ∧ k < a + n then t else w k
theorem PRel.giveBad {t : Int} {x : RunM} : giveE p t x = 1 ↔ (t < 0 ∨ mayM x = false ∨ x.1 < 2 ∨ endM x > p.pages) := by
  have _q := h
  have hr : rightM [x] = mayM x := by
    cases e : mayM x with
    | true => exact right_iff.2 ⟨by simp [e], by simp⟩
    | false =>
      cases e' : rightM [x] with
      | false => rfl
      | true => rw [(right_iff.1 e').1 x (by simp)] at e; cases e
  have he : mayM x = true → endsM [x] = endM x := fun e => by
    unfold endsM
    rw [clean_of (by rw [hr, e])]
    rfl
  have hb : badGive p t x = true ↔ (t < 0 ∨ mayM x = false ∨ x.1 < 2 ∨ endM x > p.pages) := by
    unfold badGive
    rw [hr]
    cases e : mayM x with
    | true => rw [he e]; simp [or_assoc]
    | false => simp
  rw [← hb]
  unfold giveE
  cases badGive p t x with
  | true => simp
  | false => cases hitGive p x <;> simp
theorem PRel.giveHit {t : Int} {x : RunM} (hb : ¬ giveE p t x = 1) : giveE p t x = 0 ∨ giveE p t x = 110 ∧ ∃ k, x.1 ≤ k ∧ k < endM x ∧ w k ≠ -2 := by
  have hb' := hb
  rw [h.giveBad] at hb'
  have hm : mayM x = true := by cases e : mayM x with
    | true => rfl
    | false => exact absurd (.inr (.inl e)) hb'
  have hr : rightM [x] = true := right_iff.2 ⟨by simp [hm], by simp⟩
  have e0 : badGive p t x = false := by
    cases e : badGive p t x with
    | false => rfl
    | true => exact absurd (by unfold giveE; rw [e]; rfl) hb
  cases e1 : hitGive p x with
  | false => left; unfold giveE; rw [e0, e1]; rfl
  | true =>
    right
    refine ⟨by unfold giveE; rw [e0, e1]; rfl, ?_⟩
    unfold hitGive at e1
    rw [Bool.or_eq_true, meetM_iff, meetM_iff, clean_of h.rf, clean_of hr, clean_of (unionSel_ok _ _).1] at e1
    have hx : ∀ k, inR [x] k = true → x.1 ≤ k ∧ k < endM x := fun k q => by
      rw [inR_cons, inR_nil, Bool.or_false, pinR_t] at q
      exact q
    rcases e1 with ⟨k, h1, h2⟩ | ⟨k, h1, h2⟩
    · rw [h.free] at h1
      exact ⟨k, (hx k h2).1, (hx k h2).2, by omega⟩
    · rw [h.all] at h1
      exact ⟨k, (hx k h2).1, (hx k h2).2, by omega⟩
theorem PRel.give (hn : (p.held.map (·.1)).Nodup) {t : Int} {x : RunM} (h0 : giveE p t x = 0) : 0 ≤ t ∧ mayM x = true ∧ 2 ≤ x.1 ∧ endM x ≤ p.pages ∧ (∀ k, x.1 ≤ k → k < endM x → w k = -2) ∧ PRel (giveP p t x) (putW x.1 x.2 t w) := by
  have hb' : ¬ giveE p t x = 1 := by rw [h0]; decide
  rw [h.giveBad] at hb'
  have hm : mayM x = true := by cases e : mayM x with
    | true => rfl
    | false => exact absurd (.inr (.inl e)) hb'
  have hr : rightM [x] = true := right_iff.2 ⟨by simp [hm], by simp⟩
  have ht : 0 ≤ t := by omega
  have hx : ∀ k, inR [x] k = true ↔ x.1 ≤ k ∧ k < endM x := fun k => by
    rw [inR_cons, inR_nil, Bool.or_false, pinR_t]
  have hno : ∀ k, x.1 ≤ k → k < endM x → w k = -2 := fun k h1 h2 => by
    have e1 : hitGive p x = false := by
      cases e : hitGive p x with
      | false => rfl
      | true =>
        unfold giveE at h0
        rw [e] at h0
        cases e' : badGive p t x with
        | true => rw [e'] at h0; simp at h0
        | false => rw [e'] at h0; simp at h0
    unfold hitGive at e1
    rw [Bool.or_eq_false_iff] at e1
    have n1 : w k ≠ -1 := fun q => by
      have : meetM p.free [x] = true := meetM_iff.2 ⟨k, by rw [clean_of h.rf, h.free]; exact q, by rw [clean_of hr, hx]; exact ⟨h1, h2⟩⟩
      rw [e1.1] at this; cases this
    have n2 : ¬ 0 ≤ w k := fun q => by
      have : meetM (unionSel (fun _ => true) p.held) [x] = true := meetM_iff.2 ⟨k, by rw [clean_of (unionSel_ok _ _).1, h.all]; exact q, by rw [clean_of hr, hx]; exact ⟨h1, h2⟩⟩
      rw [e1.2] at this; cases this
    have := h.ge k
    omega
  refine ⟨ht, hm, by omega, by omega, hno, ?_⟩
  have hg := h.get ht
  have hu := unionM_ok ((getO t p.held).getD []) [x]
  have ex : endM x = x.1 + x.2 := rfl
  have huk : ∀ k, inR (giveU p t x) k = true ↔ w k = t ∨ (x.1 ≤ k ∧ k < endM x) := fun k => by
    unfold giveU
    rw [hu.2, Bool.or_eq_true, clean_of hg.1, clean_of hr, hg.2, hx]
  have hw : ∀ k, (x.1 ≤ k ∧ k < endM x) → putW x.1 x.2 t w k = t := fun k q => by unfold putW; rw [if_pos (by omega)]
  have hw' : ∀ k, ¬ (x.1 ≤ k ∧ k < endM x) → putW x.1 x.2 t w k = w k := fun k q => by unfold putW; rw [if_neg (by omega)]
  unfold giveP
  rw [if_pos h0]
  refine ⟨h.lo, h.le, h.hi, h.rf, fun y hy => ?_, fun k => ?_, fun y hy => ?_, fun y hy k => ?_, fun k hk => ?_, fun k hk => ?_, fun k => ?_⟩
  · rcases put_mem hy with rfl | hy
    · exact hu.1
    · exact h.rh y hy
  · by_cases q : x.1 ≤ k ∧ k < endM x
    · rw [hw k q]
      have := hno k q.1 q.2
      constructor
      · intro e; rw [h.free] at e; omega
      · intro e; omega
    · rw [hw' k q]; exact h.free k
  · rcases put_mem hy with rfl | hy
    · exact ht
    · exact h.key y hy
  · by_cases e : y.1 = t
    · rw [put_only hn hy e, huk, e]
      by_cases q : x.1 ≤ k ∧ k < endM x
      · rw [hw k q]; exact ⟨fun _ => rfl, fun _ => .inr q⟩
      · rw [hw' k q]; exact ⟨fun e => e.resolve_right q, .inl⟩
    · rcases put_mem hy with rfl | hy
      · exact absurd rfl e
      rw [h.held y hy]
      have hk := h.key y hy
      by_cases q : x.1 ≤ k ∧ k < endM x
      · rw [hw k q, hno k q.1 q.2]
        constructor
        · intro q; omega
        · intro q; exact absurd q.symm e
      · rw [hw' k q]
  · by_cases q : putW x.1 x.2 t w k = t
    · exact ⟨_, put_key, q.symm⟩
    · by_cases q' : x.1 ≤ k ∧ k < endM x
      · exact absurd (hw k q') q
      · rw [hw' k q'] at hk q ⊢
        obtain ⟨y, hy, e⟩ := h.cov k hk
        exact ⟨y, put_at hy hn (by rw [e]; exact q), e⟩
  · by_cases q' : x.1 ≤ k ∧ k < endM x
    · show 2 ≤ k ∧ k < p.pages
      omega
    · rw [hw' k q'] at hk; exact h.rg k hk
  · by_cases q' : x.1 ≤ k ∧ k < endM x
    · rw [hw k q']; omega
    · rw [hw' k q']; exact h.ge k
end
end Go.VI

set_option linter.unusedVariables false
set_option linter.unusedSimpArgs false
set_option maxRecDepth 100000
namespace Go.VI
attribute [local congr] AW_congr OW_congr DW_congr NW_congr VW_congr GW_congr PW_congr KW_congr ite_congr' GV_congr CV_congr KF_congr
theorem AW_sub {ft ft' : FT} (hs : Sub ft ft') {c : ACode} {e : Env} {H : Heap} {Q : AExit → Env → Heap → Prop} (h : AW ft c e H Q) : AW ft' c e H Q := by
  obtain ⟨x, e', H', h, hq⟩ := h
  obtain ⟨n, hn⟩ := execL_some.1 h
  exact ⟨x, e', H', execL_some.2 ⟨n, exec_sub hs n _ _ _ _ hn⟩, hq⟩
end Go.VI

set_option linter.unusedVariables false
set_option linter.unusedSimpArgs false
set_option maxRecDepth 100000
namespace Go.VI
section
variable {p : PoolM} {w : Int → Int} (h : PRel p w)
include h
theorem PRel.tail : 0 ≤ tailP p ∧ 2 ≤ p.pages - tailP p ∧ (∀ k, p.pages - tailP p ≤ k → k < p.pages → w k = -1) ∧ w (p.pages - tailP p - 1) ≠ -1 ∧
    (0 < tailP p → ∃ l y, p.free = l ++ [y] ∧ y.2 = tailP p ∧ y.1 + y.2 = p.pages) := by
  have hlo := h.lo
  have hlast : ∀ k, w k = -1 → 2 ≤ k ∧ k < p.pages := fun k q => h.rg k (by omega)
  unfold tailP
  split
  · rename_i y hy
    have hmem := List.mem_of_getLast? hy
    have hm := (right_iff.1 h.rf).1 y hmem
    have my := mayM_iff.1 hm
    have ex : endM y = y.1 + y.2 := rfl
    have hdl : p.free = p.free.dropLast ++ [y] := by
      rw [List.getLast?_eq_some_iff] at hy
      obtain ⟨l, hl⟩ := hy
      rw [hl]
      simp
    split
    · rename_i e
      have h1 := hlast y.1 ((h.free _).1 (in_first hmem hm))
      refine ⟨by omega, by omega, fun k h1 h2 => (h.free k).1 (inR_t.2 ⟨y, hmem, by omega, by omega⟩), fun q => ?_, fun _ => ⟨_, y, hdl, rfl, e⟩⟩
      rw [← h.free] at q
      obtain ⟨z, hz, q1, q2⟩ := inR_t.1 q
      rw [hdl] at hz
      have hr := h.rf
      unfold rightM at hr
      rw [hdl, rgt_snoc] at hr
      rcases List.mem_append.1 hz with hz | hz
      · have := hr.2.2.2 z hz
        omega
      · rw [List.mem_singleton] at hz
        subst hz
        omega
    · rename_i e
      refine ⟨by omega, by omega, fun k _ _ => by omega, fun q => ?_, fun q => by omega⟩
      rw [← h.free] at q
      obtain ⟨z, hz, q1, q2⟩ := inR_t.1 q
      have hr := h.rf
      unfold rightM at hr
      rw [hdl, rgt_snoc] at hr
      rw [hdl] at hz
      have l1 := hlast _ ((h.free _).1 (in_last hmem hm))
      rcases List.mem_append.1 hz with hz | hz
      · have := hr.2.2.2 z hz
        omega
      · rw [List.mem_singleton] at hz
        subst hz
        omega
  · rename_i hy
    rw [List.getLast?_eq_none_iff] at hy
    refine ⟨by omega, by omega, fun k _ _ => by omega, fun q => ?_, fun q => by omega⟩
    rw [← h.free, hy] at q
    simp [inR] at q
theorem PRel.take {n : Int} (hn : 1 ≤ n) :
    (∃ y, y ∈ p.free ∧ p.free.find? (takeB n) = some y ∧ n ≤ y.2 ∧ (tookM p.free n).2.2 = true ∧ (takeP p n).2 = (y.1, 0) ∧ (takeP p n).1.pages = p.pages ∧ PRel (takeP p n).1 (putW y.1 n (-2) w)) ∨
    (p.free.find? (takeB n) = none ∧ (tookM p.free n).2.2 = false ∧ n > p.limit - (p.pages - tailP p) ∧ takeP p n = (p, 0, 12)) ∨
    (p.free.find? (takeB n) = none ∧ (tookM p.free n).2.2 = false ∧ ¬ n > p.limit - (p.pages - tailP p) ∧ (takeP p n).2 = (p.pages - tailP p, 0) ∧ (takeP p n).1.pages = p.pages - tailP p + n ∧ (0 < tailP p → tailP p < n) ∧ PRel (takeP p n).1 (putW (p.pages - tailP p) n (-2) w)) := by
  have hc : cleanM p.free = p.free := clean_of h.rf
  have n0 : ¬ n < 1 := by omega
  cases hfd : p.free.find? (takeB n) with
  | some y =>
    left
    have hs := tookM_some (l := p.free) (n := n) (y := y) (by rw [hc]; exact hfd)
    obtain ⟨e0, e1, e2, e3, e4, e5, e6⟩ := hs
    rw [hc] at e0 e1 e2 e3
    have e7 : takeP p n = ({ p with free := dropM p.free (y.1, n) }, y.1, 0) := by
      unfold takeP
      rw [if_neg n0, e0, if_pos rfl]
    have my := mayM_iff.1 e4
    have hy1 := h.rg y.1 (by rw [(h.free _).1 (in_first e3 e4)]; decide)
    have hy2 := h.rg _ (by rw [(h.free _).1 (in_last e3 e4)]; decide)
    have ex : endM y = y.1 + y.2 := rfl
    have hin : ∀ k, y.1 ≤ k → k < y.1 + n → w k = -1 := fun k h1 h2 => (h.free k).1 (inR_t.2 ⟨y, e3, h1, by omega⟩)
    have hw : ∀ k, (y.1 ≤ k ∧ k < y.1 + n) → putW y.1 n (-2) w k = -2 := fun k q => by unfold putW; rw [if_pos q]
    have hw' : ∀ k, ¬ (y.1 ≤ k ∧ k < y.1 + n) → putW y.1 n (-2) w k = w k := fun k q => by unfold putW; rw [if_neg q]
    refine ⟨y, e3, rfl, e6, by rw [e0], by rw [e7], by rw [e7], ?_⟩
    rw [e7]
    refine ⟨h.lo, h.le, h.hi, e1, h.rh, fun k => ?_, h.key, fun z hz k => ?_, fun k hk => ?_, fun k hk => ?_, fun k => ?_⟩
    · show inR (dropM p.free (y.1, n)) k = true ↔ _
      rw [e2]
      by_cases q : y.1 ≤ k ∧ k < y.1 + n
      · rw [hw k q]
        simp [q.1, q.2]
      · rw [hw' k q, ← h.free]
        have : (decide (y.1 ≤ k) && decide (k < y.1 + n)) = false := by
          rw [Bool.and_eq_false_iff, decide_eq_false_iff_not, decide_eq_false_iff_not]
          omega
        rw [this]
        simp
    · rw [h.held z hz]
      have := h.key z hz
      by_cases q : y.1 ≤ k ∧ k < y.1 + n
      · rw [hw k q, hin k q.1 q.2]
        constructor <;> intro <;> omega
      · rw [hw' k q]
    · by_cases q : y.1 ≤ k ∧ k < y.1 + n
      · rw [hw k q] at hk; omega
      · rw [hw' k q] at hk ⊢; exact h.cov k hk
    · by_cases q : y.1 ≤ k ∧ k < y.1 + n
      · exact absurd (hw k q) hk
      · rw [hw' k q] at hk; exact h.rg k hk
    · by_cases q : y.1 ≤ k ∧ k < y.1 + n
      · rw [hw k q]; omega
      · rw [hw' k q]; exact h.ge k
  | none =>
    right
    have hs := tookM_none (l := p.free) (n := n) (by rw [hc]; exact hfd)
    obtain ⟨t0, t1, t2, t3, t4⟩ := h.tail
    by_cases hf : n > p.limit - (p.pages - tailP p)
    · left
      refine ⟨rfl, by rw [hs], hf, ?_⟩
      unfold takeP takeF'
      rw [if_neg n0, hs, if_neg (by simp), if_pos hf]
    · right
      have e7 : takeP p n = ({ p with free := if tailP p > 0 then p.free.dropLast else p.free, pages := p.pages - tailP p + n }, p.pages - tailP p, 0) := by
        unfold takeP takeF'
        rw [if_neg n0, hs, if_neg (by simp), if_neg hf]
      have tn : 0 < tailP p → tailP p < n := fun q => by
        obtain ⟨l, y, hl, hy, _⟩ := t4 q
        rw [List.find?_eq_none] at hfd
        have := hfd y (by rw [hl]; simp)
        unfold takeB at this
        rw [Bool.and_eq_true, decide_eq_true_eq, decide_eq_true_eq] at this
        omega
      refine ⟨rfl, by rw [hs], hf, by rw [e7], by rw [e7], tn, ?_⟩
      rw [e7]
      generalize hA : p.pages - tailP p = A at *
      have hw : ∀ k, (A ≤ k ∧ k < A + n) → putW A n (-2) w k = -2 := fun k q => by unfold putW; rw [if_pos q]
      have hw' : ∀ k, ¬ (A ≤ k ∧ k < A + n) → putW A n (-2) w k = w k := fun k q => by unfold putW; rw [if_neg q]
      have hfr : rightM (if tailP p > 0 then p.free.dropLast else p.free) = true ∧ ∀ k, inR (if tailP p > 0 then p.free.dropLast else p.free) k = true ↔ putW A n (-2) w k = -1 := by
        by_cases q : tailP p > 0
        · rw [if_pos q]
          obtain ⟨l, y, hl, hy, he⟩ := t4 q
          have hr := h.rf
          unfold rightM at hr
          rw [hl, rgt_snoc] at hr
          rw [hl, List.dropLast_concat]
          refine ⟨hr.1, fun k => ?_⟩
          have hk := h.free k
          rw [hl, inR_append, Bool.or_eq_true] at hk
          by_cases q' : A ≤ k ∧ k < A + n
          · rw [hw k q']
            constructor
            · intro e
              obtain ⟨z, hz, z1, z2⟩ := inR_t.1 e
              have := hr.2.2.2 z hz
              omega
            · intro e; omega
          · rw [hw' k q', ← hk]
            constructor
            · exact .inl
            · rintro (e | e)
              · exact e
              · exfalso
                rw [inR_cons, inR_nil, Bool.or_false, pinR_t] at e
                have ex : endM y = y.1 + y.2 := rfl
                have := tn q
                omega
        · rw [if_neg q]
          refine ⟨h.rf, fun k => ?_⟩
          by_cases q' : A ≤ k ∧ k < A + n
          · rw [hw k q']
            constructor
            · intro e
              have := h.rg k (by rw [(h.free k).1 e]; decide)
              omega
            · intro e; omega
          · rw [hw' k q']; exact h.free k
      have hold : ∀ k, A ≤ k → 0 ≤ w k → False := fun k h1 h2 => by
        have h3 := h.rg k (by omega)
        have := t2 k h1 h3.2
        omega
      refine ⟨by show 2 ≤ A + n; omega, by show A + n ≤ p.limit; omega, h.hi, hfr.1, h.rh, hfr.2, h.key, fun z hz k => ?_, fun k hk => ?_, fun k hk => ?_, fun k => ?_⟩
      · rw [h.held z hz]
        have := h.key z hz
        by_cases q : A ≤ k ∧ k < A + n
        · rw [hw k q]
          constructor
          · intro e; exact (hold k q.1 (by omega)).elim
          · intro e; omega
        · rw [hw' k q]
      · by_cases q : A ≤ k ∧ k < A + n
        · rw [hw k q] at hk; omega
        · rw [hw' k q] at hk ⊢; exact h.cov k hk
      · show 2 ≤ k ∧ k < A + n
        by_cases q : A ≤ k ∧ k < A + n
        · exact absurd (hw k q) hk
        · rw [hw' k q] at hk
          have h3 := h.rg k hk
          refine ⟨h3.1, ?_⟩
          by_cases q' : 0 < tailP p
          · have := tn q'; omega
          · omega
      · by_cases q : A ≤ k ∧ k < A + n
        · rw [hw k q]; omega
        · rw [hw' k q]; exact h.ge k
theorem PRel.grow {n : Int} (hn : 1 ≤ n) : (n > p.limit - p.pages ∧ growP p n = (p, 0, 12)) ∨ (¬ n > p.limit - p.pages ∧ growP p n = ({ p with pages := p.pages + n }, p.pages, 0) ∧ PRel { p with pages := p.pages + n } w) := by
  unfold growP
  rw [if_neg (by omega)]
  by_cases q : n > p.limit - p.pages
  · left
    rw [if_pos q]
    exact ⟨q, rfl⟩
  · right
    rw [if_neg q]
    have hlo := h.lo
    exact ⟨q, rfl, by show 2 ≤ p.pages + n; omega, by show p.pages + n ≤ p.limit; omega, h.hi, h.rf, h.rh, h.free, h.key, h.held, h.cov, fun k hk => by have := h.rg k hk; exact ⟨this.1, by show k < p.pages + n; omega⟩, h.ge⟩
end
def newW (f h : List RunM) (t : Int) (k : Int) : Int := if inR f k = true then -1 else if inR h k = true then t else -2
theorem mayS_t {l : List RunM} (h : mayS l = true) : rightM l = true ∧ ∀ k, inR l k = true → 2 ≤ k ∧ k < endsM l := by
  unfold mayS at h
  rw [Bool.and_eq_true, Bool.and_eq_true] at h
  obtain ⟨⟨h1, h2⟩, h3⟩ := h
  refine ⟨h1, fun k hk => ⟨?_, ?_⟩⟩
  · obtain ⟨x, hx, q1, q2⟩ := inR_t.1 hk
    cases l with
    | nil => cases hx
    | cons y l =>
      have h4 : 2 ≤ y.1 := by simpa [firstOk] using h3
      have hm := mayM_iff.1 ((right_iff.1 h1).1 y (by simp))
      unfold rightM at h1
      rw [rgt_cons] at h1
      rcases List.mem_cons.1 hx with rfl | hx
      · omega
      · have := rgt_lt h1.2.2 x hx
        have ex : endM y = y.1 + y.2 := rfl
        omega
  · have := endsM_is l
    rw [clean_of h1] at this
    exact this.1 k hk
theorem PRel.new {f h : List RunM} {t pages limit : Int} (ok : okNew f h t pages limit = true) : PRel (newP f h t pages limit) (newW f h t) ∧ HeldH (newP f h t pages limit).held [0] 1 := by
  unfold okNew rightS at ok
  simp only [Bool.and_eq_true, Bool.not_eq_true', decide_eq_true_eq, decide_eq_false_iff_not] at ok
  obtain ⟨⟨⟨⟨⟨⟨⟨a1, a2⟩, a3⟩, a4, a5⟩, a6⟩, a7⟩, a8⟩, a9⟩ := ok
  obtain ⟨f1, f2⟩ := mayS_t a1
  obtain ⟨h1, h2⟩ := mayS_t a2
  have dis : ∀ k, inR f k = true → inR h k = false := fun k q => by
    cases e : inR h k with
    | false => rfl
    | true =>
      have : meetM f h = true := meetM_iff.2 ⟨k, by rw [clean_of f1]; exact q, by rw [clean_of h1]; exact e⟩
      rw [a3] at this; cases this
  have hw : ∀ k, newW f h t k = -1 ↔ inR f k = true := fun k => by
    unfold newW
    split
    · rename_i q; simp [q]
    · rename_i q
      split
      · constructor
        · intro e; omega
        · intro e; exact absurd e q
      · constructor
        · intro e; omega
        · intro e; exact absurd e q
  refine ⟨⟨by show 2 ≤ pages; omega, by show pages ≤ limit; omega, by show limit ≤ 16384; omega, f1, ?_, fun k => (hw k).symm, ?_, ?_, fun k hk => ⟨(t, h), by simp [newP], ?_⟩, fun k hk => ?_, fun k => ?_⟩, ⟨rfl, by simp, by simp, by simp [newP], ?_⟩⟩
  · intro y hy
    simp [newP] at hy
    subst hy
    exact h1
  · intro y hy
    simp [newP] at hy
    subst hy
    show 0 ≤ t
    omega
  · intro y hy k
    simp [newP] at hy
    subst hy
    show inR h k = true ↔ newW f h t k = t
    unfold newW
    split
    · rename_i q
      rw [dis k q]
      constructor
      · intro e; cases e
      · intro e; omega
    · split
      · rename_i q; simp [q]
      · rename_i q
        constructor
        · intro e; exact absurd e q
        · intro e; omega
  · unfold newW at hk ⊢
    split at hk
    · omega
    · rename_i q
      rw [if_neg q]
      split at hk
      · rename_i q'; rw [if_pos q']
      · omega
  · show 2 ≤ k ∧ k < pages
    unfold newW at hk
    split at hk
    · rename_i q; have := f2 k q; omega
    · split at hk
      · rename_i q; have := h2 k q; omega
      · exact absurd rfl hk
  · unfold newW
    split
    · omega
    · split <;> omega
  · intro x hx
    simp [newP] at hx
    subst hx
    exact h1
end Go.VI

set_option linter.unusedVariables false
set_option linter.unusedSimpArgs false
set_option maxRecDepth 100000
namespace Go.VI
attribute [local congr] AW_congr OW_congr DW_congr NW_congr VW_congr GW_congr PW_congr KW_congr ite_congr' GV_congr CV_congr KF_congr
theorem take_held (p : PoolM) (n : Int) : (takeP p n).1.held = p.held := by
  unfold takeP takeF'
  split
  · rfl
  · split
    · rfl
    · split <;> rfl
theorem same_refl (l : List RunM) : sameM l l = true := by simp [sameM]
end Go.VI

set_option linter.unusedVariables false
set_option linter.unusedSimpArgs false
set_option maxRecDepth 100000
namespace Go.VI
attribute [local congr] AW_congr OW_congr DW_congr NW_congr VW_congr GW_congr PW_congr KW_congr ite_congr' GV_congr CV_congr KF_congr
noncomputable def ftB14 : FT
  | 14 => some (.go true 141 r14 c14)
  | k => ftB k
theorem ftB14_sub : Sub ftB ftB14 := by
  intro k d h
  unfold ftB14
  split
  · exact absurd h (by unfold ftB; simp)
  · exact h
theorem take14 {p : PoolM} {w : Int → Int} (h : PRel p w) {n : Int} (hn : 1 ≤ n) : takeP p n = (p, 0, 12) ∨ ∃ a, (takeP p n).2 = (a, 0) ∧ PRel (takeP p n).1 (putW a n (-2) w) ∧ 2 ≤ a ∧ a ≤ p.pages ∧
    (takeP p n).1.pages = (if a + n > p.pages then a + n else p.pages) ∧ a + n ≤ 16384 ∧ ∀ k, a ≤ k → k < a + n → k < p.pages → w k = -1 := by
  have hlo := h.lo
  have hle := h.le
  have hhi := h.hi
  rcases h.take hn with ⟨y, e1, e2, e3, e4, e5, e6, e7⟩ | ⟨e1, e2, e3, e4⟩ | ⟨e1, e2, e3, e4, e5, e6, e7⟩
  · have hm := (right_iff.1 h.rf).1 y e1
    have hy1 := h.rg y.1 (by rw [(h.free _).1 (in_first e1 hm)]; decide)
    have hy2 := h.rg _ (by rw [(h.free _).1 (in_last e1 hm)]; decide)
    have ex : endM y = y.1 + y.2 := rfl
    exact .inr ⟨y.1, e5, e7, hy1.1, by omega, by rw [e6, if_neg (by omega)], by omega, fun k h1 h2 _ => (h.free k).1 (inR_t.2 ⟨y, e1, h1, by omega⟩)⟩
  · exact .inl e4
  · obtain ⟨t0, t1, t2, t3, t4⟩ := h.tail
    refine .inr ⟨_, e4, e7, t1, by omega, ?_, by omega, fun k h1 _ h3 => t2 k h1 h3⟩
    rw [e5, if_pos]
    by_cases q : 0 < tailP p
    · have := e6 q; omega
    · omega
theorem right_empty {l : List RunM} (h : rightM l = true) (hk : ∀ k, ¬ inR l k = true) : l = [] := right_ext h rfl fun k => by
  cases e : inR l k with
  | false => rfl
  | true => exact absurd e (hk k)
theorem frz_last {K : Heap} (A : List RunM) (x : RunM) : frzCells (hx K [.row false 2 [runC x]]) [encR A, .sl K.next 0 1] = some ([encR A, encR [x]], hx K [.row true 2 [runC x]]) := by
  have hg : (hx K [.row false 2 [runC x]]).get K.next = some (.row false 2 [runC x]) := hx_get0 _ _
  have hs : (hx K [.row false 2 [runC x]]).set K.next (.row true 2 [runC x]) = hx K [.row true 2 [runC x]] := hx_set K _ _ 0
  rw [frzCells_eq, frzL_cons, show ∀ n H, frz (n + 1) H (encR A) = some (encR A, H) from fun _ _ => rfl, Option.bind_some, frzL_cons, frz_sl, hg]
  simp only [Bool.false_eq_true, if_false, hs]
  rfl
section
variable {p : PoolM} {w : Int → Int} {a b n t : Int}
theorem give14 {p1 : PoolM} (r1 : PRel p1 (putW t n (-2) w)) (ha : 0 ≤ a) (hn : 1 ≤ n) (ht : 2 ≤ t) (he : t + n ≤ p1.pages) : giveE p1 (a + 1) (t, n) = 0 := by
  have hhi := r1.hi
  have hle := r1.le
  have hm : mayM ((t, n) : RunM) = true := mayM_iff.2 ⟨by simp only; omega, by simp only; omega, by simp only; omega, by simp only; omega⟩
  refine (r1.giveHit (t := a + 1) (x := (t, n)) fun q => ?_).resolve_right fun ⟨_, k, q1, q2, q⟩ => q ?_
  · rw [r1.giveBad, hm] at q
    have ex : endM ((t, n) : RunM) = t + n := rfl
    rw [ex] at q
    simp only at q
    rcases q with q | q | q | q
    · omega
    · cases q
    · omega
    · omega
  · have ex : endM ((t, n) : RunM) = t + n := rfl
    rw [ex] at q2
    simp only at q1
    unfold putW
    rw [if_pos ⟨q1, q2⟩]
theorem newW_is (f h : List RunM) (a k : Int) : newW f h a k = -2 ∨ newW f h a k = -1 ∨ newW f h a k = a := by
  unfold newW
  by_cases q : inR f k = true
  · simp [q]
  · by_cases q' : inR h k = true
    · simp [q, q']
    · simp [q, q']
theorem old14 (ha : 0 ≤ a) (ha2 : a ≤ 1073741824) : oldB (a + 3) (a + 1) a = true ∧ oldB (a + 3) (a + 1) (a + 1) = true := by
  have w1 : IntKind.i64.wrap (a + 3 - 2) = a + 1 := by rw [wrap_i64 (by omega)]; omega
  unfold oldB
  rw [w1]
  simp
  omega
/-- Behind it all. -/
theorem back14 {f h : List RunM} (hw : ∀ k, w k = -2 ∨ w k = -1 ∨ w k = a) (hp : PRel p w) (ha : 0 ≤ a) (ha2 : a ≤ 1073741824) {p3 : PoolM} (r3 : PRel p3 (settleW (a + 3) (a + 1) (putW t n (a + 1) (putW t n (-2) w))))
    (hin : ∀ k, t ≤ k → k < t + n → k < p.pages → w k = -1) (hn : 1 ≤ n) (ht : 2 ≤ t) (htb : t ≤ p.pages) (he : t + n ≤ 16384) :
    unionSel (fun _ => true) p3.held = [] ∧ p3.free = if t + n > p.pages then unionM (unionM p.free (unionSel (fun _ => true) p.held)) [(p.pages, t + n - p.pages)] else unionM p.free (unionSel (fun _ => true) p.held) := by
  obtain ⟨o1, o2⟩ := old14 ha ha2
  have hs : ∀ k, settleW (a + 3) (a + 1) (putW t n (a + 1) (putW t n (-2) w)) k = if t ≤ k ∧ k < t + n then -1 else if w k = a then -1 else w k := fun k => by
    unfold settleW putW
    by_cases q : t ≤ k ∧ k < t + n
    · simp only [if_pos q]
      rw [if_pos ⟨by omega, o2⟩]
    · simp only [if_neg q]
      rcases hw k with e | e | e
      · rw [e, if_neg (by omega), if_neg (by omega)]
      · rw [e, if_neg (by omega)]
        split <;> rfl
      · rw [e, if_pos ⟨ha, o1⟩, if_pos rfl]
  refine ⟨right_empty (unionSel_ok _ _).1 fun k q => ?_, ?_⟩
  · rw [r3.all, hs] at q
    split at q
    · omega
    · split at q
      · omega
      · rcases hw k with e | e | e <;> omega
  · have hu := unionM_ok p.free (unionSel (fun _ => true) p.held)
    have hk : ∀ k, inR (unionM p.free (unionSel (fun _ => true) p.held)) k = true ↔ w k = -1 ∨ 0 ≤ w k := fun k => by
      rw [hu.2, Bool.or_eq_true, clean_of hp.rf, clean_of (unionSel_ok _ _).1, hp.free, hp.all]
    have h3 : ∀ k, inR p3.free k = true ↔ (t ≤ k ∧ k < t + n) ∨ w k = -1 ∨ 0 ≤ w k := fun k => by
      rw [r3.free, hs]
      split
      · rename_i q; simp [q]
      · rename_i q
        split
        · rename_i q'; rw [q']; simp [ha]
        · rename_i q'
          have := hw k
          constructor
          · intro e; exact .inr (.inl e)
          · rintro (e | e | e)
            · exact absurd e q
            · exact e
            · omega
    split
    · rename_i q
      have hm : mayM ((p.pages, t + n - p.pages) : RunM) = true := mayM_iff.2 ⟨by simp only; omega, by simp only; omega, by simp only; omega, by simp only; omega⟩
      have hr : rightM [((p.pages, t + n - p.pages) : RunM)] = true := right_iff.2 ⟨by simp [hm], by simp⟩
      have hu2 := unionM_ok (unionM p.free (unionSel (fun _ => true) p.held)) [(p.pages, t + n - p.pages)]
      refine right_ext r3.rf hu2.1 fun k => beq_iff' ?_
      rw [h3, hu2.2, Bool.or_eq_true, clean_of hu.1, clean_of hr, hk, inR_cons, inR_nil, Bool.or_false, pinR_t]
      have ex : endM ((p.pages, t + n - p.pages) : RunM) = p.pages + (t + n - p.pages) := rfl
      rw [ex]
      simp only
      constructor
      · rintro (⟨e1, e2⟩ | e)
        · by_cases e3 : k < p.pages
          · exact .inl (.inl (hin k e1 e2 e3))
          · exact .inr ⟨by omega, by omega⟩
        · exact .inl e
      · rintro (e | ⟨e1, e2⟩)
        · exact .inr e
        · exact .inl ⟨by omega, by omega⟩
    · rename_i q
      refine right_ext r3.rf hu.1 fun k => beq_iff' ?_
      rw [h3, hk]
      constructor
      · rintro (⟨e1, e2⟩ | e)
        · exact .inl (hin k e1 e2 (by omega))
        · exact e
      · exact .inr
end
section
variable {f h : List RunM} (hf : f.length ≤ 1048576) (hh : h.length ≤ 1048576) {a b c n : Int}
include hf hh
theorem c14_body : AW ftB c14 (mkE 141 (ofL [.agg [encR f, encR h], .agg [int a, int b, int c], int n])) (hx Heap.empty []) (RetP r14 (boolA true)) := by
  have i0 : ∀ H j, iaddrA H (some 3) 1 (.ptr j 0 0) 0 = some (.ptr j 0 0) := fun _ _ => rfl
  have i1 : ∀ H j, iaddrA H (some 3) 1 (.ptr j 0 0) 1 = some (.ptr j 0 1) := fun _ _ => rfl
  have i2 : ∀ H j, iaddrA H (some 3) 1 (.ptr j 0 0) 2 = some (.ptr j 0 2) := fun _ _ => rfl
  have k55 : ∀ K L Q, KW ftB (.fn (.func 55) [] []) [.agg [encR f, encR h], int b, .sc (.slice none 0 0)] (hx K L) Q ↔ Q (boolA (few11 f h b [])) (hx K L) := fun K L Q => KW_of (s55 f h b [] (by omega) (by omega) (by simp) (.inr ⟨rfl, rfl⟩) _)
  have k56 := fun K L Q => @KW_of ftB _ _ _ Q _ _ (s56 (hx K L))
  have k58 := fun K L Q => @KW_of ftB _ _ _ Q _ _ (s58 f h (by omega) (by omega) (hx K L))
  have v58 : pureV ftB (.fn (.func 58) [] []) [.agg [encR f, encR h]] = some (false, []) := rfl
  have n1 : ∀ i, isnilA 1 (.ptr i 0 0) = some false := fun _ => rfl
  have n2 : isnilA 1 (.sc (.pointer none)) = some true := rfl
  have xf : ∀ q, exFQ (none : FP).isSome q = q := fun q => by cases q <;> rfl
  cases g1 : few11 f h b [] with
  | false =>
    rw [g1] at k55
    simp only [int, boolA] at k55 k56
    unfold c14 r14
    simp only [↓vp, vq0, vq1, vq2, vq3, vr0, vr1, vr2, vr3, vr4, vr5, vr6, vr7, vr8, vr9, vr10, vr11, vr12, vr13, vr14, vr15, vr16, vr17, vr18, vr19, vr20, vr21, vr22, vr23, vr24, vr25, vr26, vr27, vr28, vr29, vr30, vr31, vr32, vr33, vr34, opS, fpS, extO, okP, pack, nAl, allocA, shId, leaves, fillA, fillR, splice, Nat.reduceLT, Nat.reduceEqDiff, Nat.reduceLeDiff, Nat.reduceAdd, Nat.reduceSub, Nat.reduceMul, Int.reduceBEq, Int.reduceBNe, Int.reduceLT, Int.reduceLE, Int.reduceEq, reduceIte, reduceCtorEq, da, int, boolA, RetP_go, resT, resC, resN, retV1, retV2, retV3, retV0, frzFZ, takeM, Option.some.injEq, dr, i0, i1, i2, k55, k56]
  | true =>
    rw [g1] at k55
    by_cases g2 : n < 1
    · simp only [int, boolA] at k55 k56
      unfold c14 r14
      simp only [↓vp, vq0, vq1, vq2, vq3, vr0, vr1, vr2, vr3, vr4, vr5, vr6, vr7, vr8, vr9, vr10, vr11, vr12, vr13, vr14, vr15, vr16, vr17, vr18, vr19, vr20, vr21, vr22, vr23, vr24, vr25, vr26, vr27, vr28, vr29, vr30, vr31, vr32, vr33, vr34, opS, fpS, extO, okP, pack, nAl, allocA, shId, leaves, fillA, fillR, splice, Nat.reduceLT, Nat.reduceEqDiff, Nat.reduceLeDiff, Nat.reduceAdd, Nat.reduceSub, Nat.reduceMul, Int.reduceBEq, Int.reduceBNe, Int.reduceLT, Int.reduceLE, Int.reduceEq, reduceIte, reduceCtorEq, da, int, boolA, RetP_go, resT, resC, resN, retV1, retV2, retV3, retV0, frzFZ, takeM, Option.some.injEq, dr, i0, i1, i2, k55, k56, eq_true g2]
    by_cases g3 : n > 60
    · simp only [int, boolA] at k55 k56
      unfold c14 r14
      simp only [↓vp, vq0, vq1, vq2, vq3, vr0, vr1, vr2, vr3, vr4, vr5, vr6, vr7, vr8, vr9, vr10, vr11, vr12, vr13, vr14, vr15, vr16, vr17, vr18, vr19, vr20, vr21, vr22, vr23, vr24, vr25, vr26, vr27, vr28, vr29, vr30, vr31, vr32, vr33, vr34, opS, fpS, extO, okP, pack, nAl, allocA, shId, leaves, fillA, fillR, splice, Nat.reduceLT, Nat.reduceEqDiff, Nat.reduceLeDiff, Nat.reduceAdd, Nat.reduceSub, Nat.reduceMul, Int.reduceBEq, Int.reduceBNe, Int.reduceLT, Int.reduceLE, Int.reduceEq, reduceIte, reduceCtorEq, da, int, boolA, RetP_go, resT, resC, resN, retV1, retV2, retV3, retV0, frzFZ, takeM, Option.some.injEq, dr, i0, i1, i2, k55, k56, eq_false g2, eq_true g3, eq_true (show 60 < n from g3)]
    by_cases g4 : a > 1073741824
    · simp only [int, boolA] at k55 k56
      unfold c14 r14
      simp only [↓vp, vq0, vq1, vq2, vq3, vr0, vr1, vr2, vr3, vr4, vr5, vr6, vr7, vr8, vr9, vr10, vr11, vr12, vr13, vr14, vr15, vr16, vr17, vr18, vr19, vr20, vr21, vr22, vr23, vr24, vr25, vr26, vr27, vr28, vr29, vr30, vr31, vr32, vr33, vr34, opS, fpS, extO, okP, pack, nAl, allocA, shId, leaves, fillA, fillR, splice, Nat.reduceLT, Nat.reduceEqDiff, Nat.reduceLeDiff, Nat.reduceAdd, Nat.reduceSub, Nat.reduceMul, Int.reduceBEq, Int.reduceBNe, Int.reduceLT, Int.reduceLE, Int.reduceEq, reduceIte, reduceCtorEq, da, int, boolA, RetP_go, resT, resC, resN, retV1, retV2, retV3, retV0, frzFZ, takeM, Option.some.injEq, dr, i0, i1, i2, k55, k56, eq_false g2, eq_false g3, eq_false (show ¬ 60 < n from g3), eq_true g4, eq_true (show 1073741824 < a from g4)]
    have e2 := eq_false g2
    have e3 := eq_false g3
    have e3' : (60 < n) = False := eq_false g3
    have e4 := eq_false g4
    have e4' : (1073741824 < a) = False := eq_false g4
    have s := fun K L => @s57 (hx K L) f h a b c (by omega) (by omega)
    cases ok : okNew f h a b c with
    | false =>
      simp only [ok] at s
      have k57 := fun K L Q => @KW_of ftB _ _ _ Q _ _ (s K L)
      simp only [int, boolA] at k55 k56 k57
      unfold c14 r14
      simp only [↓vp, vq0, vq1, vq2, vq3, vr0, vr1, vr2, vr3, vr4, vr5, vr6, vr7, vr8, vr9, vr10, vr11, vr12, vr13, vr14, vr15, vr16, vr17, vr18, vr19, vr20, vr21, vr22, vr23, vr24, vr25, vr26, vr27, vr28, vr29, vr30, vr31, vr32, vr33, vr34, opS, fpS, extO, okP, pack, nAl, allocA, shId, leaves, fillA, fillR, splice, Nat.reduceLT, Nat.reduceEqDiff, Nat.reduceLeDiff, Nat.reduceAdd, Nat.reduceSub, Nat.reduceMul, Int.reduceBEq, Int.reduceBNe, Int.reduceLT, Int.reduceLE, Int.reduceEq, reduceIte, reduceCtorEq, da, int, boolA, RetP_go, resT, resC, resN, retV1, retV2, retV3, retV0, frzFZ, takeM, Option.some.injEq, dr, i0, i1, i2, k55, k56, e2, e3, e3', e4, e4', k57, k58, v58, n1, n2, xf]
    | true =>
      simp only [ok] at s
      have k57 := fun K L Q => @KW_of ftB _ _ _ Q _ _ (s K L)
      simp only [int, boolA] at k55 k56 k57
      unfold c14 r14
      simp only [↓vp, vq0, vq1, vq2, vq3, vr0, vr1, vr2, vr3, vr4, vr5, vr6, vr7, vr8, vr9, vr10, vr11, vr12, vr13, vr14, vr15, vr16, vr17, vr18, vr19, vr20, vr21, vr22, vr23, vr24, vr25, vr26, vr27, vr28, vr29, vr30, vr31, vr32, vr33, vr34, opS, fpS, extO, okP, pack, nAl, allocA, shId, leaves, fillA, fillR, splice, Nat.reduceLT, Nat.reduceEqDiff, Nat.reduceLeDiff, Nat.reduceAdd, Nat.reduceSub, Nat.reduceMul, Int.reduceBEq, Int.reduceBNe, Int.reduceLT, Int.reduceLE, Int.reduceEq, reduceIte, reduceCtorEq, da, int, boolA, RetP_go, resT, resC, resN, retV1, retV2, retV3, retV0, frzFZ, takeM, Option.some.injEq, dr, i0, i1, i2, k55, k56, e2, e3, e3', e4, e4', k57, k58, v58, n1, n2, xf]
      have hn := PRel.new ok
      have ha : 0 ≤ a := hn.1.key (a, h) (by simp [newP])
      generalize hK : hx (hx Heap.empty [_, _]) _ = K0
      have hp : PoolH K0 4 3 (newP f h a b c) [0] 1 := by
        subst hK
        exact ⟨rfl, rfl, hn.2, hn.1.rf⟩
      have y0 : K0.get 1 = some (.box false [.sc (.int .i64 a), .sc (.int .i64 b), .sc (.int .i64 c)]) := by subst hK; rfl
      clear hK k57 s
      have r0 := hn.1
      have hw0 : ∀ k, newW f h a k = -2 ∨ newW f h a k = -1 ∨ newW f h a k = a := newW_is f h a
      have lid := Heap.get_lt hp.box
      rw [← hx_nil K0]
      have k60 := fun L Q => @o60 (hx K0 L) 4 3 _ [0] 1 (pool_hx hp L) Q
      have k63 := fun L Q => @o63 (hx K0 L) 4 3 _ [0] 1 (pool_hx hp L) Q
      have k61 : ∀ Q, KW ftB (.fn (.func 61) [] []) [.ptr 4 0 0, int n] (hx K0 [.dead]) Q ↔ Q (.tup [int (takeP (newP f h a b c) n).2.1, int (takeP (newP f h a b c) n).2.2]) (hx (K0.set 4 (boxP (takeP (newP f h a b c) n).1 3)) [.dead]) := fun Q => by
        rw [← hx_set_old K0 _ _ _ lid]
        exact o61 (pool_hx hp _) r0.ok n
      have hlo := r0.lo
      have hle := r0.le
      have hhi := r0.hi
      rw [show (newP f h a b c).free = f from rfl] at k60
      have y1 := fun L => get_old y0 L
      rcases take14 r0 (n := n) (by omega) with e | ⟨t, q1, q2, q3, q4, q5, q6, q7⟩
      · rw [e, show K0.set 4 (boxP (newP f h a b c) 3) = K0 from box_same hp] at k61
        simp only [int, boolA] at k60 k63 k61
        simp only [↓vp, vq0, vq1, vq2, vq3, vr0, vr1, vr2, vr3, vr4, vr5, vr6, vr7, vr8, vr9, vr10, vr11, vr12, vr13, vr14, vr15, vr16, vr17, vr18, vr19, vr20, vr21, vr22, vr23, vr24, vr25, vr26, vr27, vr28, vr29, vr30, vr31, vr32, vr33, vr34, opS, fpS, extO, okP, pack, nAl, allocA, shId, leaves, fillA, fillR, splice, Nat.reduceLT, Nat.reduceEqDiff, Nat.reduceLeDiff, Nat.reduceAdd, Nat.reduceSub, Nat.reduceMul, Int.reduceBEq, Int.reduceBNe, Int.reduceLT, Int.reduceLE, Int.reduceEq, reduceIte, reduceCtorEq, da, int, boolA, RetP_go, resT, resC, resN, retV1, retV2, retV3, retV0, frzFZ, takeM, Option.some.injEq, dr, k60, k63, k61, k56, hx_hx]
      · have h1 : PoolH (K0.set 4 (boxP (takeP (newP f h a b c) n).1 3)) 4 3 (takeP (newP f h a b c) n).1 [0] 1 := pool_put hp (take_held _ n) q2.rf
        rw [q1] at k61
        have g0 := give14 q2 ha (by omega) q3 (by rw [q5]; split <;> omega)
        have hb : (newP f h a b c).pages = b := rfl
        rw [hb] at q4 q5 q7 hlo hle
        have hl : (newP f h a b c).limit = c := rfl
        rw [hl] at hle hhi
        generalize hp1 : (takeP (newP f h a b c) n).1 = p1 at *
        have w1 : IntKind.i64.wrap (a + 1) = a + 1 := wrap_i64 (by omega)
        have w3 : IntKind.i64.wrap (a + 3) = a + 3 := wrap_i64 (by omega)
        have lid1 : 4 < (K0.set 4 (boxP p1 3)).next := Heap.get_lt h1.box
        have y2 : ∀ L, (hx (K0.set 4 (boxP p1 3)) L).get 1 = some (.box false [.sc (.int .i64 a), .sc (.int .i64 b), .sc (.int .i64 c)]) := fun L => get_old (by rw [Heap.get_set_ne _ (by decide)]; exact y0) L
        generalize K0.set 4 (boxP p1 3) = K1 at *
        simp only [int, boolA] at k60 k63 k61
        simp only [↓vp, vq0, vq1, vq2, vq3, vr0, vr1, vr2, vr3, vr4, vr5, vr6, vr7, vr8, vr9, vr10, vr11, vr12, vr13, vr14, vr15, vr16, vr17, vr18, vr19, vr20, vr21, vr22, vr23, vr24, vr25, vr26, vr27, vr28, vr29, vr30, vr31, vr32, vr33, vr34, opS, fpS, extO, okP, pack, nAl, allocA, shId, leaves, fillA, fillR, splice, Nat.reduceLT, Nat.reduceEqDiff, Nat.reduceLeDiff, Nat.reduceAdd, Nat.reduceSub, Nat.reduceMul, Int.reduceBEq, Int.reduceBNe, Int.reduceLT, Int.reduceLE, Int.reduceEq, reduceIte, reduceCtorEq, da, int, boolA, RetP_go, resT, resC, resN, retV1, retV2, retV3, retV0, frzFZ, takeM, Option.some.injEq, dr, k60, k63, k61, k56, hx_hx, i0, i1, i2, y2, w1]
        refine o64 (pool_hx h1 _) (x := (t, n)) fun K3 b3 c3 h3 f3 => ?_
        rw [g0, ← hx_nil K3]
        obtain ⟨-, -, -, -, -, r2⟩ := q2.give h1.hd.keys g0
        have y3 : ∀ L, (hx K3 L).get 1 = some (.box false [.sc (.int .i64 a), .sc (.int .i64 b), .sc (.int .i64 c)]) := fun L => get_old (by rw [f3.eq 1 (by rw [hx_next]; omega) (by decide) (by decide)]; exact y2 _) L
        have l3 : 1 < K3.next := by have := f3.le; rw [hx_next] at this; omega
        simp only [↓vp, vq0, vq1, vq2, vq3, vr0, vr1, vr2, vr3, vr4, vr5, vr6, vr7, vr8, vr9, vr10, vr11, vr12, vr13, vr14, vr15, vr16, vr17, vr18, vr19, vr20, vr21, vr22, vr23, vr24, vr25, vr26, vr27, vr28, vr29, vr30, vr31, vr32, vr33, vr34, opS, fpS, extO, okP, pack, nAl, allocA, shId, leaves, fillA, fillR, splice, Nat.reduceLT, Nat.reduceEqDiff, Nat.reduceLeDiff, Nat.reduceAdd, Nat.reduceSub, Nat.reduceMul, Int.reduceBEq, Int.reduceBNe, Int.reduceLT, Int.reduceLE, Int.reduceEq, reduceIte, reduceCtorEq, da, int, boolA, RetP_go, resT, resC, resN, retV1, retV2, retV3, retV0, frzFZ, takeM, Option.some.injEq, dr, k56, i0, i1, i2, y3, w1, w3]
        rw [hx_nil]
        refine o65 h3 fun K4 b4 h4 f4 => ?_
        rw [← hx_nil K4]
        have r3 := r2.settle (a + 3) (a + 1)
        have y4 : ∀ L, (hx K4 L).get 1 = some (.box false [.sc (.int .i64 a), .sc (.int .i64 b), .sc (.int .i64 c)]) := fun L => get_old (by
          have := y3 []
          rw [hx_nil] at this
          rw [f4.eq 1 l3 (by decide) (by decide)]; exact this) L
        have pg : (settleP (giveP p1 (a + 1) (t, n)) (a + 3) (a + 1)).pages = p1.pages := by unfold settleP giveP; split <;> rfl
        obtain ⟨F1, F2⟩ := back14 (f := f) (h := h) hw0 r0 ha (by omega) r3 (by rw [hb]; exact q7) (by omega) q3 (by rw [hb]; exact q4) q6
        rw [hb, show (newP f h a b c).free = f from rfl] at F2
        generalize hP : settleP (giveP p1 (a + 1) (t, n)) (a + 3) (a + 1) = P at *
        generalize hH : unionSel (fun _ => true) (newP f h a b c).held = h0 at *
        have lf := right_len r0.rf
        have lh : h0.length ≤ 40000 := by rw [← hH]; exact right_len (unionSel_ok _ _).1
        have lF := right_len h4.free
        have k52 := fun H Q => @kB52 H Q f h0 (by have : (newP f h a b c).free = f := rfl; rw [this] at lf; omega) (by omega)
        have k59 := fun L Q => @o59 (hx K4 L) 4 3 _ b4 c3 (pool_hx h4 L) Q
        have k60' := fun L Q => @o60 (hx K4 L) 4 3 _ b4 c3 (pool_hx h4 L) Q
        have k63' := fun L Q => @o63 (hx K4 L) 4 3 _ b4 c3 (pool_hx h4 L) Q
        rw [F1] at k63'
        have k42 := fun H Q => @kB42 H Q [] (by simp)
        rw [show countM [] = 0 by decide] at k42
        have k62 := fun L Q => @KW_of ftB _ _ _ Q _ _ (s62 P.free (by omega) (hx K4 L))
        have k45 := fun H Q => @kB45 H Q P.free P.free (by omega)
        rw [same_refl] at k45
        rw [pg, q5] at k59
        have w4 : IntKind.i64.wrap (t + n) = t + n := wrap_i64 (by omega)
        have sA : ∀ H, sameAt H H [1] = true := fun H => by rw [sameAt1]
        have v59 : ∀ args, pureV ftB (.fn (.func 59) [] []) args = none := fun _ => rfl
        have v59t : ∀ args, pureV ftB (.tup [.fn (.func 59) [] []]) args = none := fun _ => rfl
        by_cases cc : t + n > b
        · rw [if_pos cc] at F2 k59
          have d1 : (t + n > b) = True := eq_true cc
          have d2 : (b < t + n) = True := eq_true cc
          have mx : (if t < b then b else t) = b := by split <;> omega
          have w5 : IntKind.i64.wrap (t + n - b) = t + n - b := wrap_i64 (by omega)
          have k52r : ∀ Q, KW ftB (.fn (.func 52) [] []) [encR (unionM f h0), .sl K4.next 0 1] (hx K4 [.row false 2 [[.sc (.int .i64 b), .sc (.int .i64 (t + n - b))]]]) Q ↔ Q (encR P.free) (hx K4 [.row true 2 [[.sc (.int .i64 b), .sc (.int .i64 (t + n - b))]]]) := fun Q => by
            rw [F2]
            have lu := right_len (unionM_ok f h0).1
            refine kB_of (as' := [encR (unionM f h0), encR [(b, t + n - b)]]) rfl ?_ rfl (callL_sub ftM_sub (s52 (unionM f h0) [(b, t + n - b)] (by omega) (by simp) Heap.empty))
            exact frz_last (K := K4) (unionM f h0) (b, t + n - b)
          simp only [int, boolA] at k52 k59 k60' k63' k42 k62 k45
          simp only [↓vp, vq0, vq1, vq2, vq3, vr0, vr1, vr2, vr3, vr4, vr5, vr6, vr7, vr8, vr9, vr10, vr11, vr12, vr13, vr14, vr15, vr16, vr17, vr18, vr19, vr20, vr21, vr22, vr23, vr24, vr25, vr26, vr27, vr28, vr29, vr30, vr31, vr32, vr33, vr34, opS, fpS, extO, okP, pack, nAl, allocA, shId, leaves, fillA, fillR, splice, Nat.reduceLT, Nat.reduceEqDiff, Nat.reduceLeDiff, Nat.reduceAdd, Nat.reduceSub, Nat.reduceMul, Int.reduceBEq, Int.reduceBNe, Int.reduceLT, Int.reduceLE, Int.reduceEq, reduceIte, reduceCtorEq, da, int, boolA, RetP_go, resT, resC, resN, retV1, retV2, retV3, retV0, frzFZ, takeM, Option.some.injEq, dr, mx, w5, k52r, k56, i0, i1, i2, y4, w4, k52, k59, k60', k63', k42, k62, k45, d1, d2, hx_hx, v59, v59t, mkFQ_n, xf, compat_al, sA]
        · rw [if_neg cc] at F2 k59
          rw [← F2] at k52
          simp only [int, boolA] at k52 k59 k60' k63' k42 k62 k45
          have d1 : (t + n > b) = False := eq_false cc
          have d2 : (b < t + n) = False := eq_false cc
          simp only [↓vp, vq0, vq1, vq2, vq3, vr0, vr1, vr2, vr3, vr4, vr5, vr6, vr7, vr8, vr9, vr10, vr11, vr12, vr13, vr14, vr15, vr16, vr17, vr18, vr19, vr20, vr21, vr22, vr23, vr24, vr25, vr26, vr27, vr28, vr29, vr30, vr31, vr32, vr33, vr34, opS, fpS, extO, okP, pack, nAl, allocA, shId, leaves, fillA, fillR, splice, Nat.reduceLT, Nat.reduceEqDiff, Nat.reduceLeDiff, Nat.reduceAdd, Nat.reduceSub, Nat.reduceMul, Int.reduceBEq, Int.reduceBNe, Int.reduceLT, Int.reduceLE, Int.reduceEq, reduceIte, reduceCtorEq, da, int, boolA, RetP_go, resT, resC, resN, retV1, retV2, retV3, retV0, frzFZ, takeM, Option.some.injEq, dr, k56, i0, i1, i2, y4, w4, k52, k59, k60', k63', k42, k62, k45, d1, d2, hx_hx, v59, v59t, mkFQ_n, xf, compat_al, sA]
theorem s14 (H : Heap) : callL ftB14 (.fn (.func 14) [] []) [.agg [encR f, encR h], .agg [int a, int b, int c], int n] H = some (boolA true, H) :=
  call_p (as' := [.agg [encR f, encR h], .agg [int a, int b, int c], int n]) rfl rfl (by simp) (AW_sub ftB14_sub (c14_body hf hh))
end
end Go.VI

set_option linter.unusedVariables false
set_option maxRecDepth 100000
namespace Go.VI
theorem fc14 : compF Go.Proofs.Try.prog 14 = some (141, r14, c14) := by kernel_rfl
theorem fn14 : (Go.Proofs.Try.prog.funcs[14]?).all (fun fn => !(fn.name == "runtime.NumGoroutine")) = true := by kernel_rfl
theorem ftB14_ok : FTOk Go.Proofs.Try.prog ftB14 := by
  intro k d h
  unfold ftB14 at h
  split at h
  · cases h; exact go_ok fc14 fn14
  · exact ftB_ok _ _ h
end Go.VI
