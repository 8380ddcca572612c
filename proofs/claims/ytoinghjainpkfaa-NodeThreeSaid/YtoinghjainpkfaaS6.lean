import Derived.Test.YtoinghjainpkfaaS5
import Derived.ChangeArms
import Derived.ChangeReads
import GoSem.ClaimJoined
import Derived.Below
import Derived.Test.YtoinghjainpkfaaChecked
import Derived.KernelRfl
import Derived.OpenShut
/- What the claim hangs on, part 6: NM NN NQ NR NS NT NU NV NW NX RA RB RF RG NY OA OB OC. -/
set_option linter.unusedVariables false
set_option linter.unusedSimpArgs false
set_option maxRecDepth 100000
namespace Go.VI
attribute [local congr] AW_congr OW_congr DW_congr NW_congr VW_congr GW_congr PW_congr KW_congr ite_congr' GV_congr CV_congr
def risL : List Bytes → Bool
  | a :: b :: r => decide (cmpB a b < 0) && risL (b :: r)
  | _ => true
theorem lenKs {H : Heap} (l : List Bytes) : lenV H 0 (encKs l) = some (.sc (.int .i64 (l.length : Int)), H) := by simp [lenV, lenOfA, encKs]
theorem atKs {H : Heap} {l : List Bytes} {i : Nat} (h : i < l.length) : iaddrA H none 1 (encKs l) (i : Int) = some (.pim (l.map keyC) i 0) := iaddr_map h (fun _ => rfl)
theorem cKs {H : Heap} {l : List Bytes} {i off n : Nat} (h : i < l.length) : cellsAt H (.pim (l.map keyC) i off) n = if off + n ≤ 1 then some (((keyC l[i]).drop off).take n) else none := cells_map h
theorem risL_step {l : List Bytes} {i : Nat} (h : i + 1 < l.length) : risL (l.drop i) = (decide (cmpB l[i] l[i + 1] < 0) && risL (l.drop (i + 1))) := by
  rw [List.drop_eq_getElem_cons (show i < l.length by omega), List.drop_eq_getElem_cons h, risL]
theorem risL_end {l : List Bytes} {i : Nat} (h : l.length ≤ i + 1) : risL (l.drop i) = true := by
  have : (l.drop i).length ≤ 1 := by simp; omega
  match hd : l.drop i, this with
  | [], _ => rfl
  | [_], _ => rfl
theorem l141 (l : List Bytes) (hl : l.length ≤ 1000000) (hb : ∀ b ∈ l, okB b) {Q : AExit → Env → Heap → Prop}
   (hex : ∀ f', risL l = true → Q (.exit 0) (mkE 21 f') (hx Heap.empty [])) (hret : ∀ f', risL l = false → f' 2 = boolA false → Q .ret (mkE 21 f') (hx Heap.empty [])) :
   ∀ (d i : Nat) (f : Nat → AV), i + d = l.length → risL l = risL (l.drop i) → f 0 = encKs l → f 3 = int (i + 1 : Nat) →
    AW ft (.loop c141L0) (mkE 21 f) (hx Heap.empty []) Q := by
  intro d
  induction d with
  | zero =>
    intro i f hd hc h0 h3
    have g : (((i + 1 : Nat) : Int) < l.length) = False := eq_false (by omega)
    rw [AW_loop]
    unfold c141L0
    simp only [↓vp, vq0, vq1, vq2, vq3, vr0, vr1, vr2, vr3, vr4, vr5, vr6, vr7, vr8, vr9, vr10, vr11, vr12, vr13, vr14, vr15, vr16, vr17, vr18, vr19, vr20, vr21, vr22, vr23, vr24, vr25, vr26, vr27, vr28, vr29, vr30, vr31, vr32, vr33, vr34, opS, fpS, okP, pack, nAl, allocA, shId, leaves, fillA, fillR, splice, Nat.reduceLT, Nat.reduceEqDiff, Nat.reduceLeDiff, Nat.reduceAdd, Nat.reduceSub, Nat.reduceMul, Int.reduceBEq, Int.reduceBNe, Int.reduceLT, Int.reduceLE, Int.reduceEq, reduceIte, reduceCtorEq, da, int, boolA, h0, h3, lenKs, g]
    exact hex _ (by rw [hc]; exact risL_end (by omega))
  | succ d ih =>
    intro i f hd hc h0 h3
    rw [AW_loop]
    unfold c141L0
    by_cases g : i + 1 < l.length
    · have g1 : (((i + 1 : Nat) : Int) < l.length) = True := eq_true (by omega)
      have gi : i < l.length := by omega
      have w1 := wrap_pred (show i < 9223372036854775807 by omega)
      have w2 := wrap_succ (show i + 1 < 9223372036854775807 by omega)
      have o1 := hb _ (List.getElem_mem gi)
      have o2 := hb _ (List.getElem_mem g)
      rw [risL_step g] at hc
      by_cases c1 : cmpB l[i] l[i + 1] < 0
      · have c2 : (cmpB l[i] l[i + 1] ≥ 0) = False := eq_false (by omega)
        simp only [↓vp, vq0, vq1, vq2, vq3, vr0, vr1, vr2, vr3, vr4, vr5, vr6, vr7, vr8, vr9, vr10, vr11, vr12, vr13, vr14, vr15, vr16, vr17, vr18, vr19, vr20, vr21, vr22, vr23, vr24, vr25, vr26, vr27, vr28, vr29, vr30, vr31, vr32, vr33, vr34, opS, fpS, okP, pack, nAl, allocA, shId, leaves, fillA, fillR, splice, Nat.reduceLT, Nat.reduceEqDiff, Nat.reduceLeDiff, Nat.reduceAdd, Nat.reduceSub, Nat.reduceMul, Int.reduceBEq, Int.reduceBNe, Int.reduceLT, Int.reduceLE, Int.reduceEq, reduceIte, reduceCtorEq, da, int, boolA, h0, h3, lenKs, g1, atKs gi, cKs gi, atKs g, cKs g, keyC, k136, o1, o2, w1, w2, c2]
        refine ih (i + 1) _ (by omega) (by rw [hc]; simp [c1]) ?_ ?_ <;> simp only [↓vp, vq0, vq1, vq2, vq3, vr0, vr1, vr2, vr3, vr4, vr5, vr6, vr7, vr8, vr9, vr10, vr11, vr12, vr13, vr14, vr15, vr16, vr17, vr18, vr19, vr20, vr21, vr22, vr23, vr24, vr25, vr26, vr27, vr28, vr29, vr30, vr31, vr32, vr33, vr34, opS, fpS, okP, pack, nAl, allocA, shId, leaves, fillA, fillR, splice, Nat.reduceLT, Nat.reduceEqDiff, Nat.reduceLeDiff, Nat.reduceAdd, Nat.reduceSub, Nat.reduceMul, Int.reduceBEq, Int.reduceBNe, Int.reduceLT, Int.reduceLE, Int.reduceEq, reduceIte, reduceCtorEq, da, int, boolA, h0]
      · have c2 : (cmpB l[i] l[i + 1] ≥ 0) = True := eq_true (by omega)
        simp only [↓vp, vq0, vq1, vq2, vq3, vr0, vr1, vr2, vr3, vr4, vr5, vr6, vr7, vr8, vr9, vr10, vr11, vr12, vr13, vr14, vr15, vr16, vr17, vr18, vr19, vr20, vr21, vr22, vr23, vr24, vr25, vr26, vr27, vr28, vr29, vr30, vr31, vr32, vr33, vr34, opS, fpS, okP, pack, nAl, allocA, shId, leaves, fillA, fillR, splice, Nat.reduceLT, Nat.reduceEqDiff, Nat.reduceLeDiff, Nat.reduceAdd, Nat.reduceSub, Nat.reduceMul, Int.reduceBEq, Int.reduceBNe, Int.reduceLT, Int.reduceLE, Int.reduceEq, reduceIte, reduceCtorEq, da, int, boolA, h0, h3, lenKs, g1, atKs gi, cKs gi, atKs g, cKs g, keyC, k136, o1, o2, w1, w2, c2]
        refine hret _ (by rw [hc]; simp [c1]) ?_
        simp only [↓vp, vq0, vq1, vq2, vq3, vr0, vr1, vr2, vr3, vr4, vr5, vr6, vr7, vr8, vr9, vr10, vr11, vr12, vr13, vr14, vr15, vr16, vr17, vr18, vr19, vr20, vr21, vr22, vr23, vr24, vr25, vr26, vr27, vr28, vr29, vr30, vr31, vr32, vr33, vr34, opS, fpS, okP, pack, nAl, allocA, shId, leaves, fillA, fillR, splice, Nat.reduceLT, Nat.reduceEqDiff, Nat.reduceLeDiff, Nat.reduceAdd, Nat.reduceSub, Nat.reduceMul, Int.reduceBEq, Int.reduceBNe, Int.reduceLT, Int.reduceLE, Int.reduceEq, reduceIte, reduceCtorEq, da, int, boolA]
    · have g1 : (((i + 1 : Nat) : Int) < l.length) = False := eq_false (by omega)
      simp only [↓vp, vq0, vq1, vq2, vq3, vr0, vr1, vr2, vr3, vr4, vr5, vr6, vr7, vr8, vr9, vr10, vr11, vr12, vr13, vr14, vr15, vr16, vr17, vr18, vr19, vr20, vr21, vr22, vr23, vr24, vr25, vr26, vr27, vr28, vr29, vr30, vr31, vr32, vr33, vr34, opS, fpS, okP, pack, nAl, allocA, shId, leaves, fillA, fillR, splice, Nat.reduceLT, Nat.reduceEqDiff, Nat.reduceLeDiff, Nat.reduceAdd, Nat.reduceSub, Nat.reduceMul, Int.reduceBEq, Int.reduceBNe, Int.reduceLT, Int.reduceLE, Int.reduceEq, reduceIte, reduceCtorEq, da, int, boolA, h0, h3, lenKs, g1]
      exact hex _ (by rw [hc]; exact risL_end (by omega))
theorem s141 (l : List Bytes) (hl : l.length ≤ 1000000) (hb : ∀ b ∈ l, okB b) (H : Heap) : callL ft (.fn (.func 141) [] []) [encKs l] H = some (boolA (risL l), H) := by
  refine call_p (as' := [encKs l]) rfl rfl (by simp) ?_
  unfold c141 r141
  simp only [↓vp, vq0, vq1, vq2, vq3, vr0, vr1, vr2, vr3, vr4, vr5, vr6, vr7, vr8, vr9, vr10, vr11, vr12, vr13, vr14, vr15, vr16, vr17, vr18, vr19, vr20, vr21, vr22, vr23, vr24, vr25, vr26, vr27, vr28, vr29, vr30, vr31, vr32, vr33, vr34, opS, fpS, okP, pack, nAl, allocA, shId, leaves, fillA, fillR, splice, Nat.reduceLT, Nat.reduceEqDiff, Nat.reduceLeDiff, Nat.reduceAdd, Nat.reduceSub, Nat.reduceMul, Int.reduceBEq, Int.reduceBNe, Int.reduceLT, Int.reduceLE, Int.reduceEq, reduceIte, reduceCtorEq, da, int, boolA]
  refine l141 l hl hb (fun f' hr => ?_) (fun f' hr h2 => ?_) l.length 0 _ (by simp) rfl ?_ ?_
  · unfold c141R1
    simp only [↓vp, vq0, vq1, vq2, vq3, vr0, vr1, vr2, vr3, vr4, vr5, vr6, vr7, vr8, vr9, vr10, vr11, vr12, vr13, vr14, vr15, vr16, vr17, vr18, vr19, vr20, vr21, vr22, vr23, vr24, vr25, vr26, vr27, vr28, vr29, vr30, vr31, vr32, vr33, vr34, opS, fpS, okP, pack, nAl, allocA, shId, leaves, fillA, fillR, splice, Nat.reduceLT, Nat.reduceEqDiff, Nat.reduceLeDiff, Nat.reduceAdd, Nat.reduceSub, Nat.reduceMul, Int.reduceBEq, Int.reduceBNe, Int.reduceLT, Int.reduceLE, Int.reduceEq, reduceIte, reduceCtorEq, da, int, boolA, RetP_go, resT, resC, resN, retV1, retV2, retV3, retV0, frzFZ, takeM, Option.some.injEq, hr]
  · simp only [↓vp, vq0, vq1, vq2, vq3, vr0, vr1, vr2, vr3, vr4, vr5, vr6, vr7, vr8, vr9, vr10, vr11, vr12, vr13, vr14, vr15, vr16, vr17, vr18, vr19, vr20, vr21, vr22, vr23, vr24, vr25, vr26, vr27, vr28, vr29, vr30, vr31, vr32, vr33, vr34, opS, fpS, okP, pack, nAl, allocA, shId, leaves, fillA, fillR, splice, Nat.reduceLT, Nat.reduceEqDiff, Nat.reduceLeDiff, Nat.reduceAdd, Nat.reduceSub, Nat.reduceMul, Int.reduceBEq, Int.reduceBNe, Int.reduceLT, Int.reduceLE, Int.reduceEq, reduceIte, reduceCtorEq, da, int, boolA, RetP_go, resT, resC, resN, retV1, retV2, retV3, retV0, frzFZ, takeM, Option.some.injEq, hr, h2]
  all_goals first | rfl | (simp only [↓vp, vq0, vq1, vq2, vq3, vr0, vr1, vr2, vr3, vr4, vr5, vr6, vr7, vr8, vr9, vr10, vr11, vr12, vr13, vr14, vr15, vr16, vr17, vr18, vr19, vr20, vr21, vr22, vr23, vr24, vr25, vr26, vr27, vr28, vr29, vr30, vr31, vr32, vr33, vr34, opS, fpS, okP, pack, nAl, allocA, shId, leaves, fillA, fillR, splice, Nat.reduceLT, Nat.reduceEqDiff, Nat.reduceLeDiff, Nat.reduceAdd, Nat.reduceSub, Nat.reduceMul, Int.reduceBEq, Int.reduceBNe, Int.reduceLT, Int.reduceLE, Int.reduceEq, reduceIte, reduceCtorEq, da, int, boolA]; done)
theorem k141 {l : List Bytes} (hl : l.length ≤ 1000000) (hb : ∀ b ∈ l, okB b) {K : Heap} {L : List Blk} {Q : AV → Heap → Prop} : KW ft (.fn (.func 141) [] []) [encKs l] (hx K L) Q ↔ Q (boolA (risL l)) (hx K L) := KW_of (s141 l hl hb _)
end Go.VI

set_option linter.unusedVariables false
set_option linter.unusedSimpArgs false
set_option maxRecDepth 100000
namespace Go.VI
attribute [local congr] AW_congr OW_congr DW_congr NW_congr VW_congr GW_congr PW_congr KW_congr ite_congr' GV_congr CV_congr
def lowM (g : Int) (n : NodeM) : Bool := decide (3 * roomM g n < capG g)
theorem room_bound (g : Int) {n : NodeM} (hn : okN n) (h1 : n.items.length ≤ 1000) (h2 : n.kids.length ≤ 1000) : 0 ≤ roomM g n ∧ roomM g n ≤ 1000000000000000000 := by
  have := sumZ_small (rooms_small g hn)
  have h3 := rooms_len g h1 h2
  unfold roomM
  omega
theorem s81 (g : Int) (n : NodeM) (hn : okN n) (h1 : n.items.length ≤ 1000) (h2 : n.kids.length ≤ 1000) (H : Heap) : callL ft (.fn (.func 81) [] []) [int g, .agg (nodeC n)] H = some (boolA (lowM g n), H) := by
  refine call_p (as' := [int g, .agg (nodeC n)]) rfl rfl (by simp) ?_
  unfold c81 r81
  have kk := fun K L Q => @k80 g n hn h1 h2 K L Q
  have k2 := fun g K L Q => @k90 g K L Q
  have hb := room_bound g hn h1 h2
  have w1 : IntKind.i64.wrap (3 * roomM g n) = 3 * roomM g n := wrap_i64 (by omega)
  simp only [int] at kk k2
  simp only [↓vp, vq0, vq1, vq2, vq3, vr0, vr1, vr2, vr3, vr4, vr5, vr6, vr7, vr8, vr9, vr10, vr11, vr12, vr13, vr14, vr15, vr16, vr17, vr18, vr19, vr20, vr21, vr22, vr23, vr24, vr25, vr26, vr27, vr28, vr29, vr30, vr31, vr32, vr33, vr34, opS, fpS, okP, pack, nAl, allocA, shId, leaves, fillA, fillR, splice, Nat.reduceLT, Nat.reduceEqDiff, Nat.reduceLeDiff, Nat.reduceAdd, Nat.reduceSub, Nat.reduceMul, Int.reduceBEq, Int.reduceBNe, Int.reduceLT, Int.reduceLE, Int.reduceEq, reduceIte, reduceCtorEq, da, int, boolA, RetP_go, resT, resC, resN, retV1, retV2, retV3, retV0, frzFZ, takeM, Option.some.injEq, kk, k2, w1]
  rfl
theorem kcloB {l : Bytes} (h : l.length ≤ 1000000) {K : Heap} {L : List Blk} {Q : AV → Heap → Prop} : KW ft (.fn (.func 92) [] []) [encB l] (hx K L) Q ↔ Q (encB l) (hx K L) := by
  refine KW_of (call_pprim (as' := [encB l]) (p := cloF 1 1) rfl rfl ?_)
  cases l with
  | nil => rfl
  | cons x xs =>
    have h1 : ((xs.map byteC).length + 1) * 1 ≤ 140737488355328 ∧ allSz 1 ((x :: xs).map byteC) = true := ⟨by simp at h ⊢; omega, by simp [allSz, byteC]⟩
    show (if ((xs.map byteC).length + 1) * 1 ≤ 140737488355328 ∧ allSz 1 ((x :: xs).map byteC) = true then some (encB (x :: xs)) else none) = _
    rw [if_pos h1]
theorem s75 (k v : Bytes) (h1 : k.length ≤ 1000000) (h2 : v.length ≤ 1000000) (H : Heap) : callL ft (.fn (.func 75) [] []) [encB k, encB v] H = some (.agg (itemC ⟨k, v, 0, 0⟩), H) := by
  refine call_p (as' := [encB k, encB v]) rfl rfl (by simp) ?_
  unfold c75 r75
  have k1 := fun K L Q => @kcloB k h1 K L Q
  have k2 := fun K L Q => @kcloB v h2 K L Q
  simp only [↓vp, vq0, vq1, vq2, vq3, vr0, vr1, vr2, vr3, vr4, vr5, vr6, vr7, vr8, vr9, vr10, vr11, vr12, vr13, vr14, vr15, vr16, vr17, vr18, vr19, vr20, vr21, vr22, vr23, vr24, vr25, vr26, vr27, vr28, vr29, vr30, vr31, vr32, vr33, vr34, opS, fpS, okP, pack, nAl, allocA, shId, leaves, fillA, fillR, splice, Nat.reduceLT, Nat.reduceEqDiff, Nat.reduceLeDiff, Nat.reduceAdd, Nat.reduceSub, Nat.reduceMul, Int.reduceBEq, Int.reduceBNe, Int.reduceLT, Int.reduceLE, Int.reduceEq, reduceIte, reduceCtorEq, da, int, boolA, RetP_go, resT, resC, resN, retV1, retV2, retV3, retV0, frzFZ, takeM, Option.some.injEq, k1, k2]
  rfl
def wrongF (g : Int) : AV := .fn (.func 171) [] [.pim [[int g]] 0 0]
theorem s171 (g : Int) (x : ItemM) (H : Heap) : callL ft (wrongF g) [.agg (itemC x)] H = some (boolA (!rightP g x), H) := by
  refine call_p (as' := [.agg (itemC x), .pim [[int g]] 0 0]) rfl rfl (by simp) ?_
  unfold c171 r171
  have kk := fun K L Q => @k172 g x K L Q
  simp only [int] at kk
  have cp : ∀ H, cellsAt H (.pim [[.sc (.int .i64 g)]] 0 0) 1 = some [.sc (.int .i64 g)] := fun _ => rfl
  cases e : rightP g x with
  | true => simp only [↓vp, vq0, vq1, vq2, vq3, vr0, vr1, vr2, vr3, vr4, vr5, vr6, vr7, vr8, vr9, vr10, vr11, vr12, vr13, vr14, vr15, vr16, vr17, vr18, vr19, vr20, vr21, vr22, vr23, vr24, vr25, vr26, vr27, vr28, vr29, vr30, vr31, vr32, vr33, vr34, opS, fpS, okP, pack, nAl, allocA, shId, leaves, fillA, fillR, splice, Nat.reduceLT, Nat.reduceEqDiff, Nat.reduceLeDiff, Nat.reduceAdd, Nat.reduceSub, Nat.reduceMul, Int.reduceBEq, Int.reduceBNe, Int.reduceLT, Int.reduceLE, Int.reduceEq, reduceIte, reduceCtorEq, da, int, boolA, RetP_go, resT, resC, resN, retV1, retV2, retV3, retV0, frzFZ, takeM, Option.some.injEq, kk, cp, e]
  | false => simp only [↓vp, vq0, vq1, vq2, vq3, vr0, vr1, vr2, vr3, vr4, vr5, vr6, vr7, vr8, vr9, vr10, vr11, vr12, vr13, vr14, vr15, vr16, vr17, vr18, vr19, vr20, vr21, vr22, vr23, vr24, vr25, vr26, vr27, vr28, vr29, vr30, vr31, vr32, vr33, vr34, opS, fpS, okP, pack, nAl, allocA, shId, leaves, fillA, fillR, splice, Nat.reduceLT, Nat.reduceEqDiff, Nat.reduceLeDiff, Nat.reduceAdd, Nat.reduceSub, Nat.reduceMul, Int.reduceBEq, Int.reduceBNe, Int.reduceLT, Int.reduceLE, Int.reduceEq, reduceIte, reduceCtorEq, da, int, boolA, RetP_go, resT, resC, resN, retV1, retV2, retV3, retV0, frzFZ, takeM, Option.some.injEq, kk, cp, e]
theorem kwrong {g : Int} {x : ItemM} {K : Heap} {L : List Blk} {Q : AV → Heap → Prop} : KW ft (wrongF g) [.agg (itemC x)] (hx K L) Q ↔ Q (boolA (!rightP g x)) (hx K L) := KW_of (s171 g x _)
/-- The first item that may not be. -/
def badI (g : Int) : Nat → List ItemM → Int
  | _, [] => -1
  | i, x :: r => if rightP g x then badI g (i + 1) r else i
theorem l187 (g : Int) (l : List ItemM) (hl : okI l) {Q : AExit → Env → Heap → Prop}
   (hex : ∀ f', badI g 0 l = -1 → Q (.exit 0) (mkE 19 f') (hx Heap.empty [])) (hret : ∀ f', f' 4 = int (badI g 0 l) → Q .ret (mkE 19 f') (hx Heap.empty [])) :
   ∀ (d i : Nat) (f : Nat → AV), i + d = l.length → badI g 0 l = badI g i (l.drop i) → f 0 = encI l → f 1 = wrongF g → f 7 = int l.length → f 8 = int i →
    AW ft (.loop c187L0) (mkE 19 f) (hx Heap.empty []) Q := by
  intro d
  have hi := hl.n
  unfold MX at hi
  induction d with
  | zero =>
    intro i f hd hc h0 h1 h7 h8
    have g1 : ((i : Int) < l.length) = False := by simp; omega
    rw [AW_loop]
    unfold c187L0
    rw [List.drop_eq_nil_of_le (by omega)] at hc
    simp only [↓vp, vq0, vq1, vq2, vq3, vr0, vr1, vr2, vr3, vr4, vr5, vr6, vr7, vr8, vr9, vr10, vr11, vr12, vr13, vr14, vr15, vr16, vr17, vr18, vr19, vr20, vr21, vr22, vr23, vr24, vr25, vr26, vr27, vr28, vr29, vr30, vr31, vr32, vr33, vr34, opS, fpS, okP, pack, nAl, allocA, shId, leaves, fillA, fillR, splice, Nat.reduceLT, Nat.reduceEqDiff, Nat.reduceLeDiff, Nat.reduceAdd, Nat.reduceSub, Nat.reduceMul, Int.reduceBEq, Int.reduceBNe, Int.reduceLT, Int.reduceLE, Int.reduceEq, reduceIte, reduceCtorEq, da, int, boolA, h7, h8, g1]
    exact hex _ (by rw [hc]; rfl)
  | succ d ih =>
    intro i f hd hc h0 h1 h7 h8
    have g1 : ((i : Int) < l.length) = True := by simp; omega
    have gi : i < l.length := by omega
    have w1 := wrap_succ (show i < 9223372036854775807 by omega)
    have kk := fun K L Q => @kwrong g l[i] K L Q
    rw [AW_loop]
    unfold c187L0
    rw [List.drop_eq_getElem_cons gi, badI] at hc
    cases e : rightP g l[i] with
    | true =>
      rw [e, if_pos rfl] at hc
      simp only [↓vp, vq0, vq1, vq2, vq3, vr0, vr1, vr2, vr3, vr4, vr5, vr6, vr7, vr8, vr9, vr10, vr11, vr12, vr13, vr14, vr15, vr16, vr17, vr18, vr19, vr20, vr21, vr22, vr23, vr24, vr25, vr26, vr27, vr28, vr29, vr30, vr31, vr32, vr33, vr34, opS, fpS, okP, pack, nAl, allocA, shId, leaves, fillA, fillR, splice, Nat.reduceLT, Nat.reduceEqDiff, Nat.reduceLeDiff, Nat.reduceAdd, Nat.reduceSub, Nat.reduceMul, Int.reduceBEq, Int.reduceBNe, Int.reduceLT, Int.reduceLE, Int.reduceEq, reduceIte, reduceCtorEq, da, int, boolA, h0, h1, h7, h8, g1, atI gi, cI gi, kk, e, w1]
      refine ih (i + 1) _ (by omega) hc ?_ ?_ ?_ ?_ <;> simp only [↓vp, vq0, vq1, vq2, vq3, vr0, vr1, vr2, vr3, vr4, vr5, vr6, vr7, vr8, vr9, vr10, vr11, vr12, vr13, vr14, vr15, vr16, vr17, vr18, vr19, vr20, vr21, vr22, vr23, vr24, vr25, vr26, vr27, vr28, vr29, vr30, vr31, vr32, vr33, vr34, opS, fpS, okP, pack, nAl, allocA, shId, leaves, fillA, fillR, splice, Nat.reduceLT, Nat.reduceEqDiff, Nat.reduceLeDiff, Nat.reduceAdd, Nat.reduceSub, Nat.reduceMul, Int.reduceBEq, Int.reduceBNe, Int.reduceLT, Int.reduceLE, Int.reduceEq, reduceIte, reduceCtorEq, da, int, boolA, h0, h1, h7]
    | false =>
      rw [e, if_neg (by simp)] at hc
      simp only [↓vp, vq0, vq1, vq2, vq3, vr0, vr1, vr2, vr3, vr4, vr5, vr6, vr7, vr8, vr9, vr10, vr11, vr12, vr13, vr14, vr15, vr16, vr17, vr18, vr19, vr20, vr21, vr22, vr23, vr24, vr25, vr26, vr27, vr28, vr29, vr30, vr31, vr32, vr33, vr34, opS, fpS, okP, pack, nAl, allocA, shId, leaves, fillA, fillR, splice, Nat.reduceLT, Nat.reduceEqDiff, Nat.reduceLeDiff, Nat.reduceAdd, Nat.reduceSub, Nat.reduceMul, Int.reduceBEq, Int.reduceBNe, Int.reduceLT, Int.reduceLE, Int.reduceEq, reduceIte, reduceCtorEq, da, int, boolA, h0, h1, h7, h8, g1, atI gi, cI gi, kk, e, w1]
      refine hret _ ?_
      simp only [↓vp, vq0, vq1, vq2, vq3, vr0, vr1, vr2, vr3, vr4, vr5, vr6, vr7, vr8, vr9, vr10, vr11, vr12, vr13, vr14, vr15, vr16, vr17, vr18, vr19, vr20, vr21, vr22, vr23, vr24, vr25, vr26, vr27, vr28, vr29, vr30, vr31, vr32, vr33, vr34, opS, fpS, okP, pack, nAl, allocA, shId, leaves, fillA, fillR, splice, Nat.reduceLT, Nat.reduceEqDiff, Nat.reduceLeDiff, Nat.reduceAdd, Nat.reduceSub, Nat.reduceMul, Int.reduceBEq, Int.reduceBNe, Int.reduceLT, Int.reduceLE, Int.reduceEq, reduceIte, reduceCtorEq, da, int, boolA, hc]
theorem badI_ok (g : Int) : ∀ (l : List ItemM) (i : Nat), decide (0 ≤ badI g i l) = !l.all (rightP g)
  | [], i => by simp [badI]
  | x :: r, i => by
    unfold badI
    cases e : rightP g x with
    | true => simp [e, badI_ok g r (i + 1)]
    | false => simp [e]
theorem s187 (g : Int) (l : List ItemM) (hl : okI l) (H : Heap) : callL ft (.fn (.func 187) [] []) [encI l, wrongF g] H = some (int (badI g 0 l), H) := by
  refine call_p (as' := [encI l, wrongF g]) rfl rfl (by simp) ?_
  unfold c187 r187
  simp only [↓vp, vq0, vq1, vq2, vq3, vr0, vr1, vr2, vr3, vr4, vr5, vr6, vr7, vr8, vr9, vr10, vr11, vr12, vr13, vr14, vr15, vr16, vr17, vr18, vr19, vr20, vr21, vr22, vr23, vr24, vr25, vr26, vr27, vr28, vr29, vr30, vr31, vr32, vr33, vr34, opS, fpS, okP, pack, nAl, allocA, shId, leaves, fillA, fillR, splice, Nat.reduceLT, Nat.reduceEqDiff, Nat.reduceLeDiff, Nat.reduceAdd, Nat.reduceSub, Nat.reduceMul, Int.reduceBEq, Int.reduceBNe, Int.reduceLT, Int.reduceLE, Int.reduceEq, reduceIte, reduceCtorEq, da, int, boolA]
  refine l187 g l hl (fun f' hm => ?_) (fun f' h4 => ?_) l.length 0 _ (by simp) rfl ?_ ?_ ?_ ?_
  · unfold c187R1
    simp only [↓vp, vq0, vq1, vq2, vq3, vr0, vr1, vr2, vr3, vr4, vr5, vr6, vr7, vr8, vr9, vr10, vr11, vr12, vr13, vr14, vr15, vr16, vr17, vr18, vr19, vr20, vr21, vr22, vr23, vr24, vr25, vr26, vr27, vr28, vr29, vr30, vr31, vr32, vr33, vr34, opS, fpS, okP, pack, nAl, allocA, shId, leaves, fillA, fillR, splice, Nat.reduceLT, Nat.reduceEqDiff, Nat.reduceLeDiff, Nat.reduceAdd, Nat.reduceSub, Nat.reduceMul, Int.reduceBEq, Int.reduceBNe, Int.reduceLT, Int.reduceLE, Int.reduceEq, reduceIte, reduceCtorEq, da, int, boolA, RetP_go, resT, resC, resN, retV1, retV2, retV3, retV0, frzFZ, takeM, Option.some.injEq, hm]
  · simp only [↓vp, vq0, vq1, vq2, vq3, vr0, vr1, vr2, vr3, vr4, vr5, vr6, vr7, vr8, vr9, vr10, vr11, vr12, vr13, vr14, vr15, vr16, vr17, vr18, vr19, vr20, vr21, vr22, vr23, vr24, vr25, vr26, vr27, vr28, vr29, vr30, vr31, vr32, vr33, vr34, opS, fpS, okP, pack, nAl, allocA, shId, leaves, fillA, fillR, splice, Nat.reduceLT, Nat.reduceEqDiff, Nat.reduceLeDiff, Nat.reduceAdd, Nat.reduceSub, Nat.reduceMul, Int.reduceBEq, Int.reduceBNe, Int.reduceLT, Int.reduceLE, Int.reduceEq, reduceIte, reduceCtorEq, da, int, boolA, RetP_go, resT, resC, resN, retV1, retV2, retV3, retV0, frzFZ, takeM, Option.some.injEq, h4]
  all_goals first | rfl | (simp only [↓vp, vq0, vq1, vq2, vq3, vr0, vr1, vr2, vr3, vr4, vr5, vr6, vr7, vr8, vr9, vr10, vr11, vr12, vr13, vr14, vr15, vr16, vr17, vr18, vr19, vr20, vr21, vr22, vr23, vr24, vr25, vr26, vr27, vr28, vr29, vr30, vr31, vr32, vr33, vr34, opS, fpS, okP, pack, nAl, allocA, shId, leaves, fillA, fillR, splice, Nat.reduceLT, Nat.reduceEqDiff, Nat.reduceLeDiff, Nat.reduceAdd, Nat.reduceSub, Nat.reduceMul, Int.reduceBEq, Int.reduceBNe, Int.reduceLT, Int.reduceLE, Int.reduceEq, reduceIte, reduceCtorEq, da, int, boolA]; done)
theorem k187 {g : Int} {l : List ItemM} (hl : okI l) {K : Heap} {L : List Blk} {Q : AV → Heap → Prop} : KW ft (.fn (.func 187) [] []) [encI l, wrongF g] (hx K L) Q ↔ Q (int (badI g 0 l)) (hx K L) := KW_of (s187 g l hl _)
theorem s173 (g : Int) (l : List ItemM) (hl : okI l) {args : List AV} {H H1 : Heap} (hfz : frzCells H args = some ([encI l, wrongF g], H1)) : callL ft (.fn (.func 173) [] []) args H = some (boolA (!l.all (rightP g)), H1) := by
  refine call_p (as' := [encI l, wrongF g]) rfl (by simpa using hfz) (by simp) ?_
  unfold c173 r173
  have kk := fun K L Q => @k187 g l hl K L Q
  simp only [int] at kk
  rw [← badI_ok g l 0]
  simp only [↓vp, vq0, vq1, vq2, vq3, vr0, vr1, vr2, vr3, vr4, vr5, vr6, vr7, vr8, vr9, vr10, vr11, vr12, vr13, vr14, vr15, vr16, vr17, vr18, vr19, vr20, vr21, vr22, vr23, vr24, vr25, vr26, vr27, vr28, vr29, vr30, vr31, vr32, vr33, vr34, opS, fpS, okP, pack, nAl, allocA, shId, leaves, fillA, fillR, splice, Nat.reduceLT, Nat.reduceEqDiff, Nat.reduceLeDiff, Nat.reduceAdd, Nat.reduceSub, Nat.reduceMul, Int.reduceBEq, Int.reduceBNe, Int.reduceLT, Int.reduceLE, Int.reduceEq, reduceIte, reduceCtorEq, da, int, boolA, RetP_go, resT, resC, resN, retV1, retV2, retV3, retV0, frzFZ, takeM, Option.some.injEq, kk, ge_iff_le]
theorem s139 (g : Int) (n : NodeM) (hn : okN n) (H : Heap) : callL ft (.fn (.func 139) [] []) [.agg (nodeC n), int g] H = some (boolA (n.kids.length == 0 && n.items.all (rightP g)), H) := by
  refine call_p (as' := [.agg (nodeC n), int g]) rfl rfl (by simp) ?_
  unfold c139 r139
  cases e : n.kids.length == 0 with
  | false =>
    have e' : ((n.kids.length : Int) == 0) = false := by
      have h0 : n.kids.length ≠ 0 := by simpa using e
      exact beq_eq_false_iff_ne.2 (by omega)
    simp only [↓vp, vq0, vq1, vq2, vq3, vr0, vr1, vr2, vr3, vr4, vr5, vr6, vr7, vr8, vr9, vr10, vr11, vr12, vr13, vr14, vr15, vr16, vr17, vr18, vr19, vr20, vr21, vr22, vr23, vr24, vr25, vr26, vr27, vr28, vr29, vr30, vr31, vr32, vr33, vr34, opS, fpS, okP, pack, nAl, allocA, shId, leaves, fillA, fillR, splice, Nat.reduceLT, Nat.reduceEqDiff, Nat.reduceLeDiff, Nat.reduceAdd, Nat.reduceSub, Nat.reduceMul, Int.reduceBEq, Int.reduceBNe, Int.reduceLT, Int.reduceLE, Int.reduceEq, reduceIte, reduceCtorEq, da, int, boolA, RetP_go, resT, resC, resN, retV1, retV2, retV3, retV0, frzFZ, takeM, Option.some.injEq, e', Bool.false_and]
  | true =>
    have e' : ((n.kids.length : Int) == 0) = true := by
      have h0 : n.kids.length = 0 := by simpa using e
      exact beq_iff_eq.2 (by omega)
    simp only [↓vp, vq0, vq1, vq2, vq3, vr0, vr1, vr2, vr3, vr4, vr5, vr6, vr7, vr8, vr9, vr10, vr11, vr12, vr13, vr14, vr15, vr16, vr17, vr18, vr19, vr20, vr21, vr22, vr23, vr24, vr25, vr26, vr27, vr28, vr29, vr30, vr31, vr32, vr33, vr34, opS, fpS, okP, pack, nAl, allocA, shId, leaves, fillA, fillR, splice, Nat.reduceLT, Nat.reduceEqDiff, Nat.reduceLeDiff, Nat.reduceAdd, Nat.reduceSub, Nat.reduceMul, Int.reduceBEq, Int.reduceBNe, Int.reduceLT, Int.reduceLE, Int.reduceEq, reduceIte, reduceCtorEq, da, int, boolA, e']
    refine (KW_of (s173 g n.items hn.i (H1 := hx Heap.empty [.box false (nodeC n), .box true [int g]]) rfl)).2 ?_
    cases e2 : n.items.all (rightP g) with
    | true => simp only [↓vp, vq0, vq1, vq2, vq3, vr0, vr1, vr2, vr3, vr4, vr5, vr6, vr7, vr8, vr9, vr10, vr11, vr12, vr13, vr14, vr15, vr16, vr17, vr18, vr19, vr20, vr21, vr22, vr23, vr24, vr25, vr26, vr27, vr28, vr29, vr30, vr31, vr32, vr33, vr34, opS, fpS, okP, pack, nAl, allocA, shId, leaves, fillA, fillR, splice, Nat.reduceLT, Nat.reduceEqDiff, Nat.reduceLeDiff, Nat.reduceAdd, Nat.reduceSub, Nat.reduceMul, Int.reduceBEq, Int.reduceBNe, Int.reduceLT, Int.reduceLE, Int.reduceEq, reduceIte, reduceCtorEq, da, int, boolA, RetP_go, resT, resC, resN, retV1, retV2, retV3, retV0, frzFZ, takeM, Option.some.injEq, Bool.true_and]
    | false => simp only [↓vp, vq0, vq1, vq2, vq3, vr0, vr1, vr2, vr3, vr4, vr5, vr6, vr7, vr8, vr9, vr10, vr11, vr12, vr13, vr14, vr15, vr16, vr17, vr18, vr19, vr20, vr21, vr22, vr23, vr24, vr25, vr26, vr27, vr28, vr29, vr30, vr31, vr32, vr33, vr34, opS, fpS, okP, pack, nAl, allocA, shId, leaves, fillA, fillR, splice, Nat.reduceLT, Nat.reduceEqDiff, Nat.reduceLeDiff, Nat.reduceAdd, Nat.reduceSub, Nat.reduceMul, Int.reduceBEq, Int.reduceBNe, Int.reduceLT, Int.reduceLE, Int.reduceEq, reduceIte, reduceCtorEq, da, int, boolA, RetP_go, resT, resC, resN, retV1, retV2, retV3, retV0, frzFZ, takeM, Option.some.injEq, Bool.true_and]
end Go.VI

set_option linter.unusedVariables false
set_option linter.unusedSimpArgs false
set_option maxRecDepth 100000
namespace Go.VI
attribute [local congr] AW_congr OW_congr DW_congr NW_congr VW_congr GW_congr PW_congr KW_congr ite_congr' GV_congr CV_congr
def okKid (g : Int) (k : Nat) (x : KidM) : Bool := decide (2 ≤ x.ref) && decide (x.ref < 16384) && (k == 0 || (x.key.length != 0 && decide ((x.key.length : Int) ≤ mxk g)))
def okKids (g : Int) : Nat → List KidM → Bool
  | _, [] => true
  | k, x :: r => okKid g k x && okKids g (k + 1) r
theorem l138 (g : Int) (n : NodeM) (hi : n.kids.length ≤ 1000) {Q : AExit → Env → Heap → Prop}
   (hex : ∀ f' K, okKids g 0 n.kids = true → Q (.exit 0) (mkE 61 f') (hx K []))
   (hret : ∀ f' K, okKids g 0 n.kids = false → f' 4 = boolA false → Q .ret (mkE 61 f') (hx K [])) :
   ∀ (d i : Nat) (K : Heap) (f : Nat → AV), i + d = n.kids.length → okKids g 0 n.kids = okKids g i (n.kids.drop i) → f 1 = int g → f 27 = encK n.kids → f 28 = int n.kids.length → f 29 = int i →
    AW ft (.loop c138L0) (mkE 61 f) (hx K []) Q := by
  intro d
  have kk := fun g K L Q => @k170 g K L Q
  simp only [int] at kk
  have pk : pureV ft (.fn (.func 170) [] []) [.sc (.int .i64 g)] = some (false, []) := rfl
  induction d with
  | zero =>
    intro i K f hd hc h1 h27 h28 h29
    have g1 : ((i : Int) < n.kids.length) = False := by simp; omega
    rw [AW_loop]
    unfold c138L0
    rw [List.drop_eq_nil_of_le (by omega)] at hc
    simp only [↓vp, vq0, vq1, vq2, vq3, vr0, vr1, vr2, vr3, vr4, vr5, vr6, vr7, vr8, vr9, vr10, vr11, vr12, vr13, vr14, vr15, vr16, vr17, vr18, vr19, vr20, vr21, vr22, vr23, vr24, vr25, vr26, vr27, vr28, vr29, vr30, vr31, vr32, vr33, vr34, opS, fpS, okP, pack, nAl, allocA, shId, leaves, fillA, fillR, splice, Nat.reduceLT, Nat.reduceEqDiff, Nat.reduceLeDiff, Nat.reduceAdd, Nat.reduceSub, Nat.reduceMul, Int.reduceBEq, Int.reduceBNe, Int.reduceLT, Int.reduceLE, Int.reduceEq, reduceIte, reduceCtorEq, da, int, boolA, h28, h29, g1]
    exact hex _ K (by rw [hc]; rfl)
  | succ d ih =>
    intro i K f hd hc h1 h27 h28 h29
    have g1 : ((i : Int) < n.kids.length) = True := by simp; omega
    have gi : i < n.kids.length := by omega
    have w1 := wrap_succ (show i < 9223372036854775807 by omega)
    rw [AW_loop]
    unfold c138L0
    rw [List.drop_eq_getElem_cons gi, okKids] at hc
    generalize hx0 : n.kids[i] = x at hc
    by_cases c1 : x.ref < 2
    · have e : okKid g i x = false := by simp [okKid, show ¬ 2 ≤ x.ref by omega]
      simp only [↓vp, vq0, vq1, vq2, vq3, vr0, vr1, vr2, vr3, vr4, vr5, vr6, vr7, vr8, vr9, vr10, vr11, vr12, vr13, vr14, vr15, vr16, vr17, vr18, vr19, vr20, vr21, vr22, vr23, vr24, vr25, vr26, vr27, vr28, vr29, vr30, vr31, vr32, vr33, vr34, opS, fpS, okP, pack, nAl, allocA, shId, leaves, fillA, fillR, splice, Nat.reduceLT, Nat.reduceEqDiff, Nat.reduceLeDiff, Nat.reduceAdd, Nat.reduceSub, Nat.reduceMul, Int.reduceBEq, Int.reduceBNe, Int.reduceLT, Int.reduceLE, Int.reduceEq, reduceIte, reduceCtorEq, da, int, boolA, h1, h27, h28, h29, g1, atK gi, cK gi, hx0, kk, pk, w1, c1]
      rw [← hx_nil (hx K _)]
      refine hret _ _ (by rw [hc, e, Bool.false_and]) ?_
      simp only [↓vp, vq0, vq1, vq2, vq3, vr0, vr1, vr2, vr3, vr4, vr5, vr6, vr7, vr8, vr9, vr10, vr11, vr12, vr13, vr14, vr15, vr16, vr17, vr18, vr19, vr20, vr21, vr22, vr23, vr24, vr25, vr26, vr27, vr28, vr29, vr30, vr31, vr32, vr33, vr34, opS, fpS, okP, pack, nAl, allocA, shId, leaves, fillA, fillR, splice, Nat.reduceLT, Nat.reduceEqDiff, Nat.reduceLeDiff, Nat.reduceAdd, Nat.reduceSub, Nat.reduceMul, Int.reduceBEq, Int.reduceBNe, Int.reduceLT, Int.reduceLE, Int.reduceEq, reduceIte, reduceCtorEq, da, int, boolA]
    by_cases c2 : x.ref ≥ 16384
    · have e : okKid g i x = false := by simp [okKid, show ¬ x.ref < 16384 by omega]
      simp only [↓vp, vq0, vq1, vq2, vq3, vr0, vr1, vr2, vr3, vr4, vr5, vr6, vr7, vr8, vr9, vr10, vr11, vr12, vr13, vr14, vr15, vr16, vr17, vr18, vr19, vr20, vr21, vr22, vr23, vr24, vr25, vr26, vr27, vr28, vr29, vr30, vr31, vr32, vr33, vr34, opS, fpS, okP, pack, nAl, allocA, shId, leaves, fillA, fillR, splice, Nat.reduceLT, Nat.reduceEqDiff, Nat.reduceLeDiff, Nat.reduceAdd, Nat.reduceSub, Nat.reduceMul, Int.reduceBEq, Int.reduceBNe, Int.reduceLT, Int.reduceLE, Int.reduceEq, reduceIte, reduceCtorEq, da, int, boolA, h1, h27, h28, h29, g1, atK gi, cK gi, hx0, kk, pk, w1, c1, c2]
      rw [← hx_nil (hx K _)]
      refine hret _ _ (by rw [hc, e, Bool.false_and]) ?_
      simp only [↓vp, vq0, vq1, vq2, vq3, vr0, vr1, vr2, vr3, vr4, vr5, vr6, vr7, vr8, vr9, vr10, vr11, vr12, vr13, vr14, vr15, vr16, vr17, vr18, vr19, vr20, vr21, vr22, vr23, vr24, vr25, vr26, vr27, vr28, vr29, vr30, vr31, vr32, vr33, vr34, opS, fpS, okP, pack, nAl, allocA, shId, leaves, fillA, fillR, splice, Nat.reduceLT, Nat.reduceEqDiff, Nat.reduceLeDiff, Nat.reduceAdd, Nat.reduceSub, Nat.reduceMul, Int.reduceBEq, Int.reduceBNe, Int.reduceLT, Int.reduceLE, Int.reduceEq, reduceIte, reduceCtorEq, da, int, boolA]
    by_cases c3 : (i : Int) > 0
    · have i0 : (i == 0) = false := beq_eq_false_iff_ne.2 (by omega)
      cases c4 : (x.key.length : Int) == 0 with
      | true =>
        have e : okKid g i x = false := by
          have : x.key.length = 0 := by have := eq_of_beq c4; omega
          simp [okKid, i0, this]
        simp only [↓vp, vq0, vq1, vq2, vq3, vr0, vr1, vr2, vr3, vr4, vr5, vr6, vr7, vr8, vr9, vr10, vr11, vr12, vr13, vr14, vr15, vr16, vr17, vr18, vr19, vr20, vr21, vr22, vr23, vr24, vr25, vr26, vr27, vr28, vr29, vr30, vr31, vr32, vr33, vr34, opS, fpS, okP, pack, nAl, allocA, shId, leaves, fillA, fillR, splice, Nat.reduceLT, Nat.reduceEqDiff, Nat.reduceLeDiff, Nat.reduceAdd, Nat.reduceSub, Nat.reduceMul, Int.reduceBEq, Int.reduceBNe, Int.reduceLT, Int.reduceLE, Int.reduceEq, reduceIte, reduceCtorEq, da, int, boolA, h1, h27, h28, h29, g1, atK gi, cK gi, hx0, kk, pk, w1, c1, c2, c3, c4]
        rw [← hx_nil (hx K _)]
        refine hret _ _ (by rw [hc, e, Bool.false_and]) ?_
        simp only [↓vp, vq0, vq1, vq2, vq3, vr0, vr1, vr2, vr3, vr4, vr5, vr6, vr7, vr8, vr9, vr10, vr11, vr12, vr13, vr14, vr15, vr16, vr17, vr18, vr19, vr20, vr21, vr22, vr23, vr24, vr25, vr26, vr27, vr28, vr29, vr30, vr31, vr32, vr33, vr34, opS, fpS, okP, pack, nAl, allocA, shId, leaves, fillA, fillR, splice, Nat.reduceLT, Nat.reduceEqDiff, Nat.reduceLeDiff, Nat.reduceAdd, Nat.reduceSub, Nat.reduceMul, Int.reduceBEq, Int.reduceBNe, Int.reduceLT, Int.reduceLE, Int.reduceEq, reduceIte, reduceCtorEq, da, int, boolA]
      | false =>
        have k0 : x.key.length ≠ 0 := fun h => by rw [h] at c4; exact absurd c4 (by decide)
        by_cases c5 : (x.key.length : Int) > mxk g
        · have e : okKid g i x = false := by simp [okKid, i0, show ¬ (x.key.length : Int) ≤ mxk g by omega]
          simp only [↓vp, vq0, vq1, vq2, vq3, vr0, vr1, vr2, vr3, vr4, vr5, vr6, vr7, vr8, vr9, vr10, vr11, vr12, vr13, vr14, vr15, vr16, vr17, vr18, vr19, vr20, vr21, vr22, vr23, vr24, vr25, vr26, vr27, vr28, vr29, vr30, vr31, vr32, vr33, vr34, opS, fpS, okP, pack, nAl, allocA, shId, leaves, fillA, fillR, splice, Nat.reduceLT, Nat.reduceEqDiff, Nat.reduceLeDiff, Nat.reduceAdd, Nat.reduceSub, Nat.reduceMul, Int.reduceBEq, Int.reduceBNe, Int.reduceLT, Int.reduceLE, Int.reduceEq, reduceIte, reduceCtorEq, da, int, boolA, h1, h27, h28, h29, g1, atK gi, cK gi, hx0, kk, pk, w1, c1, c2, c3, c4, c5]
          rw [← hx_nil (hx K _)]
          refine hret _ _ (by rw [hc, e, Bool.false_and]) ?_
          simp only [↓vp, vq0, vq1, vq2, vq3, vr0, vr1, vr2, vr3, vr4, vr5, vr6, vr7, vr8, vr9, vr10, vr11, vr12, vr13, vr14, vr15, vr16, vr17, vr18, vr19, vr20, vr21, vr22, vr23, vr24, vr25, vr26, vr27, vr28, vr29, vr30, vr31, vr32, vr33, vr34, opS, fpS, okP, pack, nAl, allocA, shId, leaves, fillA, fillR, splice, Nat.reduceLT, Nat.reduceEqDiff, Nat.reduceLeDiff, Nat.reduceAdd, Nat.reduceSub, Nat.reduceMul, Int.reduceBEq, Int.reduceBNe, Int.reduceLT, Int.reduceLE, Int.reduceEq, reduceIte, reduceCtorEq, da, int, boolA]
        · have e : okKid g i x = true := by simp [okKid, i0, k0, show (x.key.length : Int) ≤ mxk g by omega, show 2 ≤ x.ref by omega, show x.ref < 16384 by omega]
          simp only [↓vp, vq0, vq1, vq2, vq3, vr0, vr1, vr2, vr3, vr4, vr5, vr6, vr7, vr8, vr9, vr10, vr11, vr12, vr13, vr14, vr15, vr16, vr17, vr18, vr19, vr20, vr21, vr22, vr23, vr24, vr25, vr26, vr27, vr28, vr29, vr30, vr31, vr32, vr33, vr34, opS, fpS, okP, pack, nAl, allocA, shId, leaves, fillA, fillR, splice, Nat.reduceLT, Nat.reduceEqDiff, Nat.reduceLeDiff, Nat.reduceAdd, Nat.reduceSub, Nat.reduceMul, Int.reduceBEq, Int.reduceBNe, Int.reduceLT, Int.reduceLE, Int.reduceEq, reduceIte, reduceCtorEq, da, int, boolA, h1, h27, h28, h29, g1, atK gi, cK gi, hx0, kk, pk, w1, c1, c2, c3, c4, c5]
          rw [← hx_nil (hx K _)]
          refine ih (i + 1) _ _ (by omega) (by rw [hc, e, Bool.true_and]) ?_ ?_ ?_ ?_ <;> simp only [↓vp, vq0, vq1, vq2, vq3, vr0, vr1, vr2, vr3, vr4, vr5, vr6, vr7, vr8, vr9, vr10, vr11, vr12, vr13, vr14, vr15, vr16, vr17, vr18, vr19, vr20, vr21, vr22, vr23, vr24, vr25, vr26, vr27, vr28, vr29, vr30, vr31, vr32, vr33, vr34, opS, fpS, okP, pack, nAl, allocA, shId, leaves, fillA, fillR, splice, Nat.reduceLT, Nat.reduceEqDiff, Nat.reduceLeDiff, Nat.reduceAdd, Nat.reduceSub, Nat.reduceMul, Int.reduceBEq, Int.reduceBNe, Int.reduceLT, Int.reduceLE, Int.reduceEq, reduceIte, reduceCtorEq, da, int, boolA, h1, h27, h28]
    · have i0 : (i == 0) = true := beq_iff_eq.2 (by omega)
      have e : okKid g i x = true := by simp [okKid, i0, show 2 ≤ x.ref by omega, show x.ref < 16384 by omega]
      simp only [↓vp, vq0, vq1, vq2, vq3, vr0, vr1, vr2, vr3, vr4, vr5, vr6, vr7, vr8, vr9, vr10, vr11, vr12, vr13, vr14, vr15, vr16, vr17, vr18, vr19, vr20, vr21, vr22, vr23, vr24, vr25, vr26, vr27, vr28, vr29, vr30, vr31, vr32, vr33, vr34, opS, fpS, okP, pack, nAl, allocA, shId, leaves, fillA, fillR, splice, Nat.reduceLT, Nat.reduceEqDiff, Nat.reduceLeDiff, Nat.reduceAdd, Nat.reduceSub, Nat.reduceMul, Int.reduceBEq, Int.reduceBNe, Int.reduceLT, Int.reduceLE, Int.reduceEq, reduceIte, reduceCtorEq, da, int, boolA, h1, h27, h28, h29, g1, atK gi, cK gi, hx0, kk, pk, w1, c1, c2, c3]
      rw [← hx_nil (hx K _)]
      refine ih (i + 1) _ _ (by omega) (by rw [hc, e, Bool.true_and]) ?_ ?_ ?_ ?_ <;> simp only [↓vp, vq0, vq1, vq2, vq3, vr0, vr1, vr2, vr3, vr4, vr5, vr6, vr7, vr8, vr9, vr10, vr11, vr12, vr13, vr14, vr15, vr16, vr17, vr18, vr19, vr20, vr21, vr22, vr23, vr24, vr25, vr26, vr27, vr28, vr29, vr30, vr31, vr32, vr33, vr34, opS, fpS, okP, pack, nAl, allocA, shId, leaves, fillA, fillR, splice, Nat.reduceLT, Nat.reduceEqDiff, Nat.reduceLeDiff, Nat.reduceAdd, Nat.reduceSub, Nat.reduceMul, Int.reduceBEq, Int.reduceBNe, Int.reduceLT, Int.reduceLE, Int.reduceEq, reduceIte, reduceCtorEq, da, int, boolA, h1, h27, h28]
def branchM (g : Int) (n : NodeM) : Bool := match n.kids with
  | [] => false
  | x :: _ => n.items.length == 0 && x.key.length == 0 && okKids g 0 n.kids
theorem s138 (g : Int) (n : NodeM) (h2 : n.kids.length ≤ 1000) (H : Heap) : callL ft (.fn (.func 138) [] []) [.agg (nodeC n), int g] H = some (boolA (branchM g n), H) := by
  refine call_p (as' := [.agg (nodeC n), int g]) rfl rfl (by simp) ?_
  unfold c138 r138
  unfold branchM
  cases hk : n.kids with
  | nil =>
    have e1 : ((n.kids.length : Int) == 0) = true := by rw [hk]; rfl
    simp only [↓vp, vq0, vq1, vq2, vq3, vr0, vr1, vr2, vr3, vr4, vr5, vr6, vr7, vr8, vr9, vr10, vr11, vr12, vr13, vr14, vr15, vr16, vr17, vr18, vr19, vr20, vr21, vr22, vr23, vr24, vr25, vr26, vr27, vr28, vr29, vr30, vr31, vr32, vr33, vr34, opS, fpS, okP, pack, nAl, allocA, shId, leaves, fillA, fillR, splice, Nat.reduceLT, Nat.reduceEqDiff, Nat.reduceLeDiff, Nat.reduceAdd, Nat.reduceSub, Nat.reduceMul, Int.reduceBEq, Int.reduceBNe, Int.reduceLT, Int.reduceLE, Int.reduceEq, reduceIte, reduceCtorEq, da, int, boolA, RetP_go, resT, resC, resN, retV1, retV2, retV3, retV0, frzFZ, takeM, Option.some.injEq, e1]
  | cons x r =>
    have gi : 0 < n.kids.length := by rw [hk]; simp
    have hx0 : n.kids[0] = x := by simp [hk]
    have e1 : ((n.kids.length : Int) == 0) = false := beq_eq_false_iff_ne.2 (by omega)
    have ia : ∀ H, iaddrA H none 2 (encK n.kids) 0 = some (.pim (n.kids.map kidC) 0 0) := fun H => atK gi
    by_cases c1 : (n.items.length : Int) > 0
    · have e2 : (n.items.length == 0) = false := beq_eq_false_iff_ne.2 (by omega)
      simp only [↓vp, vq0, vq1, vq2, vq3, vr0, vr1, vr2, vr3, vr4, vr5, vr6, vr7, vr8, vr9, vr10, vr11, vr12, vr13, vr14, vr15, vr16, vr17, vr18, vr19, vr20, vr21, vr22, vr23, vr24, vr25, vr26, vr27, vr28, vr29, vr30, vr31, vr32, vr33, vr34, opS, fpS, okP, pack, nAl, allocA, shId, leaves, fillA, fillR, splice, Nat.reduceLT, Nat.reduceEqDiff, Nat.reduceLeDiff, Nat.reduceAdd, Nat.reduceSub, Nat.reduceMul, Int.reduceBEq, Int.reduceBNe, Int.reduceLT, Int.reduceLE, Int.reduceEq, reduceIte, reduceCtorEq, da, int, boolA, RetP_go, resT, resC, resN, retV1, retV2, retV3, retV0, frzFZ, takeM, Option.some.injEq, e1, c1, e2, Bool.false_and]
    · have e2 : (n.items.length == 0) = true := beq_iff_eq.2 (by omega)
      by_cases c2 : (x.key.length : Int) > 0
      · have e3 : (x.key.length == 0) = false := beq_eq_false_iff_ne.2 (by omega)
        simp only [↓vp, vq0, vq1, vq2, vq3, vr0, vr1, vr2, vr3, vr4, vr5, vr6, vr7, vr8, vr9, vr10, vr11, vr12, vr13, vr14, vr15, vr16, vr17, vr18, vr19, vr20, vr21, vr22, vr23, vr24, vr25, vr26, vr27, vr28, vr29, vr30, vr31, vr32, vr33, vr34, opS, fpS, okP, pack, nAl, allocA, shId, leaves, fillA, fillR, splice, Nat.reduceLT, Nat.reduceEqDiff, Nat.reduceLeDiff, Nat.reduceAdd, Nat.reduceSub, Nat.reduceMul, Int.reduceBEq, Int.reduceBNe, Int.reduceLT, Int.reduceLE, Int.reduceEq, reduceIte, reduceCtorEq, da, int, boolA, RetP_go, resT, resC, resN, retV1, retV2, retV3, retV0, frzFZ, takeM, Option.some.injEq, e1, c1, c2, e2, e3, ia, cK gi, hx0, Bool.false_and, Bool.true_and]
      · have e3 : (x.key.length == 0) = true := beq_iff_eq.2 (by omega)
        rw [← hk]
        simp only [↓vp, vq0, vq1, vq2, vq3, vr0, vr1, vr2, vr3, vr4, vr5, vr6, vr7, vr8, vr9, vr10, vr11, vr12, vr13, vr14, vr15, vr16, vr17, vr18, vr19, vr20, vr21, vr22, vr23, vr24, vr25, vr26, vr27, vr28, vr29, vr30, vr31, vr32, vr33, vr34, opS, fpS, okP, pack, nAl, allocA, shId, leaves, fillA, fillR, splice, Nat.reduceLT, Nat.reduceEqDiff, Nat.reduceLeDiff, Nat.reduceAdd, Nat.reduceSub, Nat.reduceMul, Int.reduceBEq, Int.reduceBNe, Int.reduceLT, Int.reduceLE, Int.reduceEq, reduceIte, reduceCtorEq, da, int, boolA, e1, c1, c2, e2, e3, ia, cK gi, hx0, Bool.false_and, Bool.true_and]
        rw [← hx_nil (hx _ _)]
        refine l138 g n h2 (fun f' K hm => ?_) (fun f' K hm q4 => ?_) n.kids.length 0 _ _ (by simp) rfl ?_ ?_ ?_ ?_
        · unfold c138R1
          simp only [↓vp, vq0, vq1, vq2, vq3, vr0, vr1, vr2, vr3, vr4, vr5, vr6, vr7, vr8, vr9, vr10, vr11, vr12, vr13, vr14, vr15, vr16, vr17, vr18, vr19, vr20, vr21, vr22, vr23, vr24, vr25, vr26, vr27, vr28, vr29, vr30, vr31, vr32, vr33, vr34, opS, fpS, okP, pack, nAl, allocA, shId, leaves, fillA, fillR, splice, Nat.reduceLT, Nat.reduceEqDiff, Nat.reduceLeDiff, Nat.reduceAdd, Nat.reduceSub, Nat.reduceMul, Int.reduceBEq, Int.reduceBNe, Int.reduceLT, Int.reduceLE, Int.reduceEq, reduceIte, reduceCtorEq, da, int, boolA, RetP_go, resT, resC, resN, retV1, retV2, retV3, retV0, frzFZ, takeM, Option.some.injEq, hm]
          rw [hk]
          simp only [e3]
        · simp only [↓vp, vq0, vq1, vq2, vq3, vr0, vr1, vr2, vr3, vr4, vr5, vr6, vr7, vr8, vr9, vr10, vr11, vr12, vr13, vr14, vr15, vr16, vr17, vr18, vr19, vr20, vr21, vr22, vr23, vr24, vr25, vr26, vr27, vr28, vr29, vr30, vr31, vr32, vr33, vr34, opS, fpS, okP, pack, nAl, allocA, shId, leaves, fillA, fillR, splice, Nat.reduceLT, Nat.reduceEqDiff, Nat.reduceLeDiff, Nat.reduceAdd, Nat.reduceSub, Nat.reduceMul, Int.reduceBEq, Int.reduceBNe, Int.reduceLT, Int.reduceLE, Int.reduceEq, reduceIte, reduceCtorEq, da, int, boolA, RetP_go, resT, resC, resN, retV1, retV2, retV3, retV0, frzFZ, takeM, Option.some.injEq, hm, q4]
          rw [hk]
          simp only [Bool.and_false]
        all_goals first | rfl | (simp only [↓vp, vq0, vq1, vq2, vq3, vr0, vr1, vr2, vr3, vr4, vr5, vr6, vr7, vr8, vr9, vr10, vr11, vr12, vr13, vr14, vr15, vr16, vr17, vr18, vr19, vr20, vr21, vr22, vr23, vr24, vr25, vr26, vr27, vr28, vr29, vr30, vr31, vr32, vr33, vr34, opS, fpS, okP, pack, nAl, allocA, shId, leaves, fillA, fillR, splice, Nat.reduceLT, Nat.reduceEqDiff, Nat.reduceLeDiff, Nat.reduceAdd, Nat.reduceSub, Nat.reduceMul, Int.reduceBEq, Int.reduceBNe, Int.reduceLT, Int.reduceLE, Int.reduceEq, reduceIte, reduceCtorEq, da, int, boolA]; done)
end Go.VI

set_option linter.unusedVariables false
set_option linter.unusedSimpArgs false
set_option maxRecDepth 100000
namespace Go.VI
attribute [local congr] AW_congr OW_congr DW_congr NW_congr VW_congr GW_congr PW_congr KW_congr ite_congr' GV_congr CV_congr
def kindM (g : Int) (n : NodeM) : Bool := if n.leaf then n.kids.length == 0 && n.items.all (rightP g) else branchM g n
def rightN (g : Int) (n : NodeM) : Bool := gen g && kindM g n && risL (keysM n) && fitsM g n
theorem keys_ok {n : NodeM} (hn : okN n) : ∀ b ∈ keysM n, okB b := by
  intro b hb
  unfold keysM at hb
  rcases List.mem_append.1 hb with h | h
  · obtain ⟨x, hx, rfl⟩ := List.mem_map.1 h
    exact (hn.i.h x hx).k
  · obtain ⟨x, hx, rfl⟩ := List.mem_map.1 h
    exact hn.k.h x (List.mem_of_mem_drop hx)
theorem keys_len {n : NodeM} (h1 : n.items.length ≤ 1000) (h2 : n.kids.length ≤ 1000) : (keysM n).length ≤ 1000000 := by
  unfold keysM
  simp
  omega
theorem kleaf' {g : Int} {n : NodeM} (hn : okN n) {K : Heap} {L : List Blk} {Q : AV → Heap → Prop} : KW ft (.fn (.func 139) [.agg (nodeC n)] []) [int g] (hx K L) Q ↔ Q (boolA (n.kids.length == 0 && n.items.all (rightP g))) (hx K L) := KW_of (by
  have := s139 g n hn (hx K L)
  rw [callL_fn] at this ⊢
  exact this)
theorem kbranch' {g : Int} {n : NodeM} (h2 : n.kids.length ≤ 1000) {K : Heap} {L : List Blk} {Q : AV → Heap → Prop} : KW ft (.fn (.func 138) [.agg (nodeC n)] []) [int g] (hx K L) Q ↔ Q (boolA (branchM g n)) (hx K L) := KW_of (by
  have := s138 g n h2 (hx K L)
  rw [callL_fn] at this ⊢
  exact this)
theorem s79 (g : Int) (n : NodeM) (hn : okN n) (h1 : n.items.length ≤ 1000) (h2 : n.kids.length ≤ 1000) (H : Heap) : callL ft (.fn (.func 79) [] []) [int g, .agg (nodeC n)] H = some (boolA (rightN g n), H) := by
  refine call_p (as' := [int g, .agg (nodeC n)]) rfl rfl (by simp) ?_
  unfold c79 r79 rightN
  have k1 := fun g K L Q => @k140 g K L Q
  have k2 := fun K L Q => @kleaf' g n hn K L Q
  have k3 := fun K L Q => @kbranch' g n h2 K L Q
  have k4 := fun K L Q => @k142 n h1 h2 K L Q
  have k5 := fun K L Q => @k141 (keysM n) (keys_len h1 h2) (keys_ok hn) K L Q
  have k6 := fun K L Q => @k26 g n hn h1 h2 K L Q
  have one : (encKs (keysM n)).one = true := rfl
  simp only [int] at k1 k2 k3 k6
  have hkd : kindM g n = if n.leaf then n.kids.length == 0 && n.items.all (rightP g) else branchM g n := rfl
  cases e : gen g with
  | false =>
    cases el : n.leaf with
    | true => simp only [↓vp, vq0, vq1, vq2, vq3, vr0, vr1, vr2, vr3, vr4, vr5, vr6, vr7, vr8, vr9, vr10, vr11, vr12, vr13, vr14, vr15, vr16, vr17, vr18, vr19, vr20, vr21, vr22, vr23, vr24, vr25, vr26, vr27, vr28, vr29, vr30, vr31, vr32, vr33, vr34, opS, fpS, okP, pack, nAl, allocA, shId, leaves, fillA, fillR, splice, Nat.reduceLT, Nat.reduceEqDiff, Nat.reduceLeDiff, Nat.reduceAdd, Nat.reduceSub, Nat.reduceMul, Int.reduceBEq, Int.reduceBNe, Int.reduceLT, Int.reduceLE, Int.reduceEq, reduceIte, reduceCtorEq, da, int, boolA, RetP_go, resT, resC, resN, retV1, retV2, retV3, retV0, frzFZ, takeM, Option.some.injEq, k1, e, el, Bool.false_and]
    | false => simp only [↓vp, vq0, vq1, vq2, vq3, vr0, vr1, vr2, vr3, vr4, vr5, vr6, vr7, vr8, vr9, vr10, vr11, vr12, vr13, vr14, vr15, vr16, vr17, vr18, vr19, vr20, vr21, vr22, vr23, vr24, vr25, vr26, vr27, vr28, vr29, vr30, vr31, vr32, vr33, vr34, opS, fpS, okP, pack, nAl, allocA, shId, leaves, fillA, fillR, splice, Nat.reduceLT, Nat.reduceEqDiff, Nat.reduceLeDiff, Nat.reduceAdd, Nat.reduceSub, Nat.reduceMul, Int.reduceBEq, Int.reduceBNe, Int.reduceLT, Int.reduceLE, Int.reduceEq, reduceIte, reduceCtorEq, da, int, boolA, RetP_go, resT, resC, resN, retV1, retV2, retV3, retV0, frzFZ, takeM, Option.some.injEq, k1, e, el, Bool.false_and]
  | true =>
    cases el : n.leaf with
    | true =>
      rw [el, if_pos rfl] at hkd
      cases ek : kindM g n with
      | false =>
        rw [ek] at hkd
        simp only [↓vp, vq0, vq1, vq2, vq3, vr0, vr1, vr2, vr3, vr4, vr5, vr6, vr7, vr8, vr9, vr10, vr11, vr12, vr13, vr14, vr15, vr16, vr17, vr18, vr19, vr20, vr21, vr22, vr23, vr24, vr25, vr26, vr27, vr28, vr29, vr30, vr31, vr32, vr33, vr34, opS, fpS, okP, pack, nAl, allocA, shId, leaves, fillA, fillR, splice, Nat.reduceLT, Nat.reduceEqDiff, Nat.reduceLeDiff, Nat.reduceAdd, Nat.reduceSub, Nat.reduceMul, Int.reduceBEq, Int.reduceBNe, Int.reduceLT, Int.reduceLE, Int.reduceEq, reduceIte, reduceCtorEq, da, int, boolA, RetP_go, resT, resC, resN, retV1, retV2, retV3, retV0, frzFZ, takeM, Option.some.injEq, k1, k2, ← hkd, e, el, Bool.false_and, Bool.true_and]
      | true =>
        rw [ek] at hkd
        cases er : risL (keysM n) with
        | false => simp only [↓vp, vq0, vq1, vq2, vq3, vr0, vr1, vr2, vr3, vr4, vr5, vr6, vr7, vr8, vr9, vr10, vr11, vr12, vr13, vr14, vr15, vr16, vr17, vr18, vr19, vr20, vr21, vr22, vr23, vr24, vr25, vr26, vr27, vr28, vr29, vr30, vr31, vr32, vr33, vr34, opS, fpS, okP, pack, nAl, allocA, shId, leaves, fillA, fillR, splice, Nat.reduceLT, Nat.reduceEqDiff, Nat.reduceLeDiff, Nat.reduceAdd, Nat.reduceSub, Nat.reduceMul, Int.reduceBEq, Int.reduceBNe, Int.reduceLT, Int.reduceLE, Int.reduceEq, reduceIte, reduceCtorEq, da, int, boolA, RetP_go, resT, resC, resN, retV1, retV2, retV3, retV0, frzFZ, takeM, Option.some.injEq, k1, k2, k4, k5, one, ← hkd, e, el, er, Bool.false_and, Bool.true_and]
        | true => simp only [↓vp, vq0, vq1, vq2, vq3, vr0, vr1, vr2, vr3, vr4, vr5, vr6, vr7, vr8, vr9, vr10, vr11, vr12, vr13, vr14, vr15, vr16, vr17, vr18, vr19, vr20, vr21, vr22, vr23, vr24, vr25, vr26, vr27, vr28, vr29, vr30, vr31, vr32, vr33, vr34, opS, fpS, okP, pack, nAl, allocA, shId, leaves, fillA, fillR, splice, Nat.reduceLT, Nat.reduceEqDiff, Nat.reduceLeDiff, Nat.reduceAdd, Nat.reduceSub, Nat.reduceMul, Int.reduceBEq, Int.reduceBNe, Int.reduceLT, Int.reduceLE, Int.reduceEq, reduceIte, reduceCtorEq, da, int, boolA, RetP_go, resT, resC, resN, retV1, retV2, retV3, retV0, frzFZ, takeM, Option.some.injEq, k1, k2, k4, k5, k6, one, ← hkd, e, el, er, Bool.false_and, Bool.true_and]
    | false =>
      rw [el, if_neg (by simp)] at hkd
      cases ek : kindM g n with
      | false =>
        rw [ek] at hkd
        simp only [↓vp, vq0, vq1, vq2, vq3, vr0, vr1, vr2, vr3, vr4, vr5, vr6, vr7, vr8, vr9, vr10, vr11, vr12, vr13, vr14, vr15, vr16, vr17, vr18, vr19, vr20, vr21, vr22, vr23, vr24, vr25, vr26, vr27, vr28, vr29, vr30, vr31, vr32, vr33, vr34, opS, fpS, okP, pack, nAl, allocA, shId, leaves, fillA, fillR, splice, Nat.reduceLT, Nat.reduceEqDiff, Nat.reduceLeDiff, Nat.reduceAdd, Nat.reduceSub, Nat.reduceMul, Int.reduceBEq, Int.reduceBNe, Int.reduceLT, Int.reduceLE, Int.reduceEq, reduceIte, reduceCtorEq, da, int, boolA, RetP_go, resT, resC, resN, retV1, retV2, retV3, retV0, frzFZ, takeM, Option.some.injEq, k1, k3, ← hkd, e, el, Bool.false_and, Bool.true_and]
      | true =>
        rw [ek] at hkd
        cases er : risL (keysM n) with
        | false => simp only [↓vp, vq0, vq1, vq2, vq3, vr0, vr1, vr2, vr3, vr4, vr5, vr6, vr7, vr8, vr9, vr10, vr11, vr12, vr13, vr14, vr15, vr16, vr17, vr18, vr19, vr20, vr21, vr22, vr23, vr24, vr25, vr26, vr27, vr28, vr29, vr30, vr31, vr32, vr33, vr34, opS, fpS, okP, pack, nAl, allocA, shId, leaves, fillA, fillR, splice, Nat.reduceLT, Nat.reduceEqDiff, Nat.reduceLeDiff, Nat.reduceAdd, Nat.reduceSub, Nat.reduceMul, Int.reduceBEq, Int.reduceBNe, Int.reduceLT, Int.reduceLE, Int.reduceEq, reduceIte, reduceCtorEq, da, int, boolA, RetP_go, resT, resC, resN, retV1, retV2, retV3, retV0, frzFZ, takeM, Option.some.injEq, k1, k3, k4, k5, one, ← hkd, e, el, er, Bool.false_and, Bool.true_and]
        | true => simp only [↓vp, vq0, vq1, vq2, vq3, vr0, vr1, vr2, vr3, vr4, vr5, vr6, vr7, vr8, vr9, vr10, vr11, vr12, vr13, vr14, vr15, vr16, vr17, vr18, vr19, vr20, vr21, vr22, vr23, vr24, vr25, vr26, vr27, vr28, vr29, vr30, vr31, vr32, vr33, vr34, opS, fpS, okP, pack, nAl, allocA, shId, leaves, fillA, fillR, splice, Nat.reduceLT, Nat.reduceEqDiff, Nat.reduceLeDiff, Nat.reduceAdd, Nat.reduceSub, Nat.reduceMul, Int.reduceBEq, Int.reduceBNe, Int.reduceLT, Int.reduceLE, Int.reduceEq, reduceIte, reduceCtorEq, da, int, boolA, RetP_go, resT, resC, resN, retV1, retV2, retV3, retV0, frzFZ, takeM, Option.some.injEq, k1, k3, k4, k5, k6, one, ← hkd, e, el, er, Bool.false_and, Bool.true_and]
end Go.VI

set_option linter.unusedVariables false
set_option linter.unusedSimpArgs false
namespace Go.VI
theorem atG_bound (tot : Int) : ∀ (r : List Int) (s : Int) (k : Nat), k ≤ atG tot s k r ∧ atG tot s k r ≤ k + r.length ∧ (r ≠ [] → k < atG tot s k r)
  | [], s, k => ⟨Nat.le_refl _, by simp [atG], fun h => absurd rfl h⟩
  | x :: r, s, k => by
    obtain ⟨a, b, c⟩ := atG_bound tot r (s + x) (k + 1)
    unfold atG
    split
    · exact ⟨by omega, by simp, fun _ => by omega⟩
    · refine ⟨by omega, ?_, fun _ => by omega⟩
      simp only [List.length_cons]
      omega
/-- Neither half is empty. -/
theorem atM_bound (g : Int) (n : NodeM) (h : 2 ≤ (roomsM g n).length) : 1 ≤ atM g n ∧ atM g n < (roomsM g n).length := by
  obtain ⟨a, b, c⟩ := atG_bound (roomM g n) ((roomsM g n).take ((roomsM g n).length - 1)) 0 0
  have hne : (roomsM g n).take ((roomsM g n).length - 1) ≠ [] := fun e => by
    have := congrArg List.length e
    simp at this
    omega
  have := c hne
  unfold atM
  simp only [List.length_take] at b
  omega
/-- The pieces. -/
def partsM (g : Int) : Nat → Bytes → NodeM → List (Bytes × NodeM)
  | 0, key, n => [(key, n)]
  | d + 1, key, n => if fitsM g n || decide ((roomsM g n).length < 2) then [(key, n)] else partsM g d key (cutM n (atM g n)).1 ++ partsM g d (cutM n (atM g n)).2.2 (cutM n (atM g n)).2.1
theorem rooms_cut_l (g : Int) (n : NodeM) (k : Nat) : roomsM g (cutM n k).1 = (roomsM g n).take k := by
  unfold roomsM cutM
  cases e : n.leaf <;> simp [List.map_take]
theorem noKey_len : ∀ l : List KidM, (noKey l).length = l.length
  | [] => rfl
  | x :: r => rfl
theorem rooms_cut_r (g : Int) (n : NodeM) (k : Nat) : (roomsM g (cutM n k).2.1).length = (roomsM g n).length - k := by
  unfold roomsM cutM
  cases e : n.leaf <;> simp [noKey_len]
end Go.VI

set_option linter.unusedVariables false
set_option linter.unusedSimpArgs false
namespace Go.VI
def withKey (key : Bytes) : List KidM → List KidM
  | [] => []
  | x :: r => ⟨key, x.ref⟩ :: r
def joinM (a b : NodeM) (key : Bytes) : NodeM := ⟨a.leaf, a.items ++ b.items, a.kids ++ withKey key b.kids⟩
/-- A node that has just what its kind has. -/
def pureM (n : NodeM) : Prop := if n.leaf then n.kids = [] else n.items = []
theorem cut_pure (n : NodeM) (k : Nat) : pureM (cutM n k).1 ∧ pureM (cutM n k).2.1 := by
  unfold cutM pureM
  cases n.leaf <;> exact ⟨rfl, rfl⟩
end Go.VI

set_option linter.unusedVariables false
set_option linter.unusedSimpArgs false
namespace Go.VI
/-- Where the walk stops: half is reached there, or it is the end; one step ahead half was not reached. -/
theorem atG_spec (tot : Int) : ∀ (r : List Int) (s : Int) (k : Nat), (tot ≤ 2 * (s + sumZ (r.take (atG tot s k r - k))) ∨ atG tot s k r = k + r.length) ∧ (k + 1 < atG tot s k r → 2 * (s + sumZ (r.take (atG tot s k r - k - 1))) < tot)
  | [], s, k => ⟨.inr rfl, fun h => by simp [atG] at h; omega⟩
  | x :: r, s, k => by
    obtain ⟨a, b⟩ := atG_spec tot r (s + x) (k + 1)
    obtain ⟨c, d, e⟩ := atG_bound tot r (s + x) (k + 1)
    unfold atG
    split
    · rename_i h
      refine ⟨.inl ?_, fun h => by omega⟩
      rw [Nat.add_sub_cancel_left]
      simpa [sumZ] using h
    · rename_i h
      have e1 : atG tot (s + x) (k + 1) r - k = (atG tot (s + x) (k + 1) r - (k + 1)) + 1 := by omega
      refine ⟨?_, fun h2 => ?_⟩
      · rcases a with a | a
        · left
          rw [e1, List.take_succ_cons, sumZ]
          omega
        · right
          simp only [List.length_cons]
          omega
      · by_cases h3 : atG tot (s + x) (k + 1) r = k + 1 + 1
        · rw [h3, show k + 1 + 1 - k - 1 = 1 by omega]
          simp only [List.take_succ_cons, List.take_zero, sumZ]
          omega
        · have e2 : atG tot (s + x) (k + 1) r - k - 1 = (atG tot (s + x) (k + 1) r - (k + 1) - 1) + 1 := by omega
          by_cases h4 : atG tot (s + x) (k + 1) r = k + 1
          · omega
          · have := b (by omega)
            rw [e2, List.take_succ_cons, sumZ]
            omega
theorem room_l (g : Int) (n : NodeM) (k : Nat) : roomM g (cutM n k).1 = sumZ ((roomsM g n).take k) := by unfold roomM; rw [rooms_cut_l]
theorem noKey_sum (g : Int) : ∀ l : List KidM, sumZ ((noKey l).map fun x => roomK g x.key) ≤ sumZ (l.map fun x => roomK g x.key)
  | [] => Int.le_refl _
  | x :: r => by
    simp only [noKey, List.map_cons, sumZ]
    have : roomK g [] ≤ roomK g x.key := by
      unfold roomK
      split
      · simp only [List.length_nil]; omega
      · omega
    omega
theorem room_r (g : Int) (n : NodeM) (k : Nat) : roomM g (cutM n k).2.1 ≤ sumZ ((roomsM g n).drop k) := by
  unfold roomM roomsM cutM
  cases e : n.leaf with
  | true => simp [List.map_drop]
  | false =>
    simp only [Bool.false_eq_true, if_false, ← List.map_drop]
    exact noKey_sum g _
theorem sum_split (l : List Int) (k : Nat) : sumZ (l.take k) + sumZ (l.drop k) = sumZ l := by rw [← sumZ_app, List.take_append_drop]
theorem sumZ_nonneg {l : List Int} (h : ∀ x ∈ l, 0 ≤ x) : 0 ≤ sumZ l := by
  induction l with
  | nil => simp [sumZ]
  | cons x r ih =>
    have h1 := h x (by simp)
    have h2 := ih fun y hy => h y (by simp [hy])
    simp only [sumZ]
    omega
/-- How large the halves are. -/
theorem halves (g : Int) (n : NodeM) (m : Int) (hm : ∀ x ∈ roomsM g n, 0 ≤ x ∧ x ≤ m) (h2 : 2 ≤ (roomsM g n).length) :
    2 * roomM g (cutM n (atM g n)).1 ≤ roomM g n + 2 * m ∧ (2 * roomM g (cutM n (atM g n)).2.1 ≤ roomM g n ∨ (roomsM g (cutM n (atM g n)).2.1).length = 1) := by
  obtain ⟨b1, b2⟩ := atM_bound g n h2
  have hs := atG_spec (roomM g n) ((roomsM g n).take ((roomsM g n).length - 1)) 0 0
  rw [show atG (roomM g n) 0 0 ((roomsM g n).take ((roomsM g n).length - 1)) = atM g n from rfl] at hs
  have ht : ∀ j, j ≤ (roomsM g n).length - 1 → ((roomsM g n).take ((roomsM g n).length - 1)).take j = (roomsM g n).take j := fun j hj => by rw [List.take_take, Nat.min_eq_left hj]
  simp only [Nat.sub_zero, Int.zero_add, Nat.zero_add] at hs
  rw [ht _ (by omega), ht _ (by omega)] at hs
  have htot : 0 ≤ roomM g n := sumZ_nonneg fun x hx => (hm x hx).1
  refine ⟨?_, ?_⟩
  · rw [room_l]
    have e1 : (roomsM g n).take (atM g n) = (roomsM g n).take (atM g n - 1) ++ [(roomsM g n)[atM g n - 1]] := by
      have := List.take_succ_eq_append_getElem (show atM g n - 1 < (roomsM g n).length by omega)
      rw [show atM g n - 1 + 1 = atM g n by omega] at this
      exact this
    rw [e1, sumZ_app]
    have h3 := (hm _ (List.getElem_mem (show atM g n - 1 < (roomsM g n).length by omega))).2
    simp only [sumZ]
    by_cases h4 : 1 < atM g n
    · have := hs.2 h4
      omega
    · have h5 : sumZ ((roomsM g n).take (atM g n - 1)) = 0 := by
        rw [show atM g n - 1 = 0 by omega]
        rfl
      omega
  · rcases hs.1 with h | h
    · left
      have h5 := room_r g n (atM g n)
      have h6 := sum_split (roomsM g n) (atM g n)
      have h7 : sumZ (roomsM g n) = roomM g n := rfl
      omega
    · right
      rw [rooms_cut_r]
      simp only [List.length_take] at h
      omega
theorem mem_r (g : Int) (n : NodeM) (k : Nat) {m : Int} (hm : ∀ x ∈ roomsM g n, 0 ≤ x ∧ x ≤ m) : ∀ x ∈ roomsM g (cutM n k).2.1, 0 ≤ x ∧ x ≤ m := by
  intro x hx
  unfold roomsM cutM at hx
  unfold roomsM at hm
  cases e : n.leaf with
  | true =>
    rw [e] at hx hm
    simp only [if_true] at hx hm
    obtain ⟨y, hy, rfl⟩ := List.mem_map.1 hx
    exact hm _ (List.mem_map.2 ⟨y, List.mem_of_mem_drop hy, rfl⟩)
  | false =>
    rw [e] at hx hm
    simp only [Bool.false_eq_true, if_false] at hx hm
    obtain ⟨y, hy, rfl⟩ := List.mem_map.1 hx
    cases hd : n.kids.drop k with
    | nil => rw [hd] at hy; cases hy
    | cons z r =>
      rw [hd] at hy
      have hz : ∀ w ∈ z :: r, 0 ≤ roomK g w.key ∧ roomK g w.key ≤ m := fun w hw => hm _ (List.mem_map.2 ⟨w, List.mem_of_mem_drop (by rw [hd]; exact hw), rfl⟩)
      rcases List.mem_cons.1 hy with rfl | hy
      · have h1 := hz z (by simp)
        have h2 : roomK g [] ≤ roomK g z.key ∧ 0 ≤ roomK g [] := by
          have h3 := (idw_bound g).1
          unfold roomK
          split
          · simp only [List.length_nil]
            exact ⟨by omega, by omega⟩
          · exact ⟨Int.le_refl _, Int.le_refl _⟩
        show 0 ≤ roomK g [] ∧ roomK g [] ≤ m
        exact ⟨h2.2, by omega⟩
      · exact hz y (by simp [hy])
theorem mem_l (g : Int) (n : NodeM) (k : Nat) {m : Int} (hm : ∀ x ∈ roomsM g n, 0 ≤ x ∧ x ≤ m) : ∀ x ∈ roomsM g (cutM n k).1, 0 ≤ x ∧ x ≤ m := by
  rw [rooms_cut_l]
  exact fun x hx => hm x (List.mem_of_mem_take hx)
theorem one_fits {g m : Int} {n : NodeM} (hm : ∀ x ∈ roomsM g n, 0 ≤ x ∧ x ≤ m) (h0 : 0 ≤ m) (hC : m ≤ capG g) (h : (roomsM g n).length < 2) : fitsM g n = true := by
  unfold fitsM roomM
  rw [decide_eq_true_eq]
  match hl : roomsM g n, h with
  | [], _ => simp only [sumZ]; omega
  | [x], _ =>
    have := hm x (by rw [hl]; simp)
    simp only [sumZ]
    omega
theorem parts_one {g : Int} {n : NodeM} (h : fitsM g n = true) : ∀ (d : Nat) (key : Bytes), partsM g d key n = [(key, n)]
  | 0, key => rfl
  | d + 1, key => by unfold partsM; rw [h]; rfl
theorem parts_two {g m : Int} (h0 : 0 ≤ m) (hC : m ≤ capG g) (d : Nat) (key : Bytes) (n : NodeM) (hd : (roomsM g n).length ≤ d) (hm : ∀ x ∈ roomsM g n, 0 ≤ x ∧ x ≤ m) (hT : roomM g n + 2 * m ≤ 2 * capG g) : (partsM g d key n).length ≤ 2 ∧ ∀ p ∈ partsM g d key n, fitsM g p.2 = true := by
  by_cases hf : fitsM g n = true
  · rw [parts_one hf]
    exact ⟨by simp, by simp [hf]⟩
  have h2 : 2 ≤ (roomsM g n).length := by
    rcases Nat.lt_or_ge (roomsM g n).length 2 with h | h
    · exact absurd (one_fits hm h0 hC h) hf
    · exact h
  obtain ⟨a, b⟩ := halves g n m hm h2
  have fl : fitsM g (cutM n (atM g n)).1 = true := by unfold fitsM; rw [decide_eq_true_eq]; omega
  have fr : fitsM g (cutM n (atM g n)).2.1 = true := by
    rcases b with b | b
    · unfold fitsM; rw [decide_eq_true_eq]; omega
    · exact one_fits (mem_r g n _ hm) h0 hC (by omega)
  cases d with
  | zero => omega
  | succ d =>
    unfold partsM
    rw [if_neg (by simp [hf]; omega), parts_one fl, parts_one fr]
    exact ⟨by simp, by simp [fl, fr]⟩
/-- AT MOST THREE PIECES, ALL OF WHICH FIT. -/
theorem parts_three {g m : Int} (h0 : 0 ≤ m) (hC : m ≤ capG g) (d : Nat) (key : Bytes) (n : NodeM) (hd : (roomsM g n).length ≤ d) (hm : ∀ x ∈ roomsM g n, 0 ≤ x ∧ x ≤ m) (hT : roomM g n ≤ 2 * capG g) (hT2 : roomM g n + 6 * m ≤ 4 * capG g) : (partsM g d key n).length ≤ 3 ∧ ∀ p ∈ partsM g d key n, fitsM g p.2 = true := by
  by_cases hf : fitsM g n = true
  · rw [parts_one hf]
    exact ⟨by simp, by simp [hf]⟩
  have h2 : 2 ≤ (roomsM g n).length := by
    rcases Nat.lt_or_ge (roomsM g n).length 2 with h | h
    · exact absurd (one_fits hm h0 hC h) hf
    · exact h
  obtain ⟨a, b⟩ := halves g n m hm h2
  obtain ⟨b1, b2⟩ := atM_bound g n h2
  have fr : fitsM g (cutM n (atM g n)).2.1 = true := by
    rcases b with b | b
    · unfold fitsM; rw [decide_eq_true_eq]; omega
    · exact one_fits (mem_r g n _ hm) h0 hC (by omega)
  cases d with
  | zero => omega
  | succ d =>
    obtain ⟨c1, c2⟩ := parts_two h0 hC d key (cutM n (atM g n)).1 (by rw [rooms_cut_l]; simp; omega) (mem_l g n _ hm) (by omega)
    unfold partsM
    rw [if_neg (by simp [hf]; omega), parts_one fr]
    refine ⟨by simp; omega, fun p hp => ?_⟩
    rcases List.mem_append.1 hp with hp | hp
    · exact c2 p hp
    · simp only [List.mem_singleton] at hp
      subst hp
      exact fr
end Go.VI

set_option linter.unusedVariables false
set_option linter.unusedSimpArgs false
set_option maxRecDepth 100000
namespace Go.VI
attribute [local congr] AW_congr OW_congr DW_congr NW_congr VW_congr GW_congr PW_congr KW_congr ite_congr' GV_congr CV_congr
theorem VW_appz {ft : FT} {e : Env} {H : Heap} {nid : Nat} {K : AV → Heap → Prop} (a b : Nat) (z : List AV) (x y : Operand) : VW ft nid e H (.appz a b z x y) K ↔ PW (opS nid e H (.appz a b z x y)) K := Iff.rfl
theorem VW_cap {ft : FT} {e : Env} {H : Heap} {nid : Nat} {K : AV → Heap → Prop} (x : Operand) : VW ft nid e H (.cap x) K ↔ PW (opS nid e H (.cap x)) K := Iff.rfl
theorem slice_sl0 {H : Heap} {id m sz : Nat} {rs : List (List AV)} (hg : H.get id = some (.row false sz rs)) (hm : m ≤ rs.length) : sliceA H sz (.sl id 0 m) none (some 0) none = some (.sl id 0 0) := by
  unfold sliceA boundsS
  simp [hg, hm]
theorem slice_nil0 (H : Heap) (sz : Nat) : sliceA H sz (.sc (.slice none 0 0)) none (some 0) none = some (.sc (.slice none 0 0)) := by
  unfold sliceA boundsA
  simp
def gzI : List AV := [.sc (.slice none 0 0), .sc (.slice none 0 0), .sc (.int .i64 0), .sc (.int .i64 0)]
def gzK : List AV := [.sc (.slice none 0 0), .sc (.int .i64 0)]
theorem allSz_rep {sz n : Nat} {z : List AV} (h : z.length = sz) : allSz sz (List.replicate n z) = true := by simp [allSz, h]
theorem s1470 (H : Heap) : callL ft (.fn (.func 147) [] []) [.sc (.slice none 0 0), .sc (.int .i64 0)] H = some (.sc (.slice none 0 0), H) := by
  refine call_o (H1 := H) rfl (by simp) ?_
  unfold c147 r147 RetO
  have w0 : IntKind.i64.wrap (0 - 0) = 0 := rfl
  simp only [↓vp, vq0, vq1, vq2, vq3, vr0, vr1, vr2, vr3, vr4, vr5, vr6, vr7, vr8, vr9, vr10, vr11, vr12, vr13, vr14, vr15, vr16, vr17, vr18, vr19, vr20, vr21, vr22, vr23, vr24, vr25, vr26, vr27, vr28, vr29, vr30, vr31, vr32, vr33, vr34, opS, fpS, okP, pack, nAl, allocA, shId, leaves, fillA, fillR, splice, Nat.reduceLT, Nat.reduceEqDiff, Nat.reduceLeDiff, Nat.reduceAdd, Nat.reduceSub, Nat.reduceMul, Int.reduceBEq, Int.reduceBNe, Int.reduceLT, Int.reduceLE, Int.reduceEq, reduceIte, reduceCtorEq, da, int, boolA, VW_appz, VW_cap, opI0, opI1, w0]
  exact ⟨rfl, hx_nil _⟩
theorem s1471 {m : Nat} (h0 : 0 < m) (hm : m ≤ 4000) (H : Heap) : callL ft (.fn (.func 147) [] []) [.sc (.slice none 0 0), int m] H = some (.sl H.next 0 0, hx H [.row false 4 (List.replicate m gzI)]) := by
  refine call_o rfl (by simp) ?_
  unfold c147 r147 RetO
  have w0 : IntKind.i64.wrap (0 - 0) = 0 := rfl
  have w1 : IntKind.i64.wrap ((m : Int) - 0) = (m : Int) := by rw [wrap_i64 (by omega)]; omega
  have g0 : ((m : Int) < 0) = False := eq_false (by omega)
  have g1 : ((0 : Int) < m) = True := eq_true (by omega)
  have g2 : (m = 0) = False := eq_false (by omega)
  have d2 : (m * 64 ≤ 140737488355328) = True := eq_true (by omega)
  have d3 : ((0 : Int) ≤ m) = True := eq_true (by omega)
  have ha : allSz 4 (List.replicate m gzI) = true := allSz_rep rfl
  have hs : sliceA (hx H [.row false 4 (List.replicate m gzI)]) 4 (.sl H.next 0 m) none (some 0) none = some (.sl H.next 0 0) := slice_sl0 (by rw [hx_get0]; rfl) (by simp)
  unfold gzI at *
  simp only [↓vp, vq0, vq1, vq2, vq3, vr0, vr1, vr2, vr3, vr4, vr5, vr6, vr7, vr8, vr9, vr10, vr11, vr12, vr13, vr14, vr15, vr16, vr17, vr18, vr19, vr20, vr21, vr22, vr23, vr24, vr25, vr26, vr27, vr28, vr29, vr30, vr31, vr32, vr33, vr34, opS, fpS, okP, pack, nAl, allocA, shId, leaves, fillA, fillR, splice, Nat.reduceLT, Nat.reduceEqDiff, Nat.reduceLeDiff, Nat.reduceAdd, Nat.reduceSub, Nat.reduceMul, Int.reduceBEq, Int.reduceBNe, Int.reduceLT, Int.reduceLE, Int.reduceEq, reduceIte, reduceCtorEq, da, int, boolA, VW_appz, VW_cap, opI0, opI1, w0, w1, g0, g1, g2, slice_nil0, Int.toNat_natCast, List.length_replicate, ha, d2, d3, hs]
  try rfl
theorem concI {A B : List ItemM} {args : List AV} {H H1 : Heap} (hz : frzCells H args = some ([.lst [[encI A], [encI B]]], H1)) (ha : A.length ≤ 2000) (hb : B.length ≤ 2000) : callL ft (.fn (.func 93) [] []) args H = some (encI (A ++ B), H1) := by
  refine call_p rfl (by simpa using hz) (by simp) ?_
  unfold c93 r93
  have i0 : ∀ H, iaddrA H none 1 (.lst [[encI A], [encI B]]) 0 = some (.pim [[encI A], [encI B]] 0 0) := fun _ => rfl
  have i1 : ∀ H, iaddrA H none 1 (.lst [[encI A], [encI B]]) 1 = some (.pim [[encI A], [encI B]] 1 0) := fun _ => rfl
  have c0 : ∀ H, cellsAt H (.pim [[encI A], [encI B]] 0 0) 1 = some [encI A] := fun _ => rfl
  have c1 : ∀ H, cellsAt H (.pim [[encI A], [encI B]] 1 0) 1 = some [encI B] := fun _ => rfl
  have hl : ∀ H, lenV H 0 (.lst [[encI A], [encI B]]) = some (.sc (.int .i64 2), H) := fun _ => rfl
  have w0 : IntKind.i64.wrap (0 + 1) = 1 := rfl
  have w1 : IntKind.i64.wrap (1 + 1) = 2 := rfl
  have w2 : IntKind.i64.wrap (0 + (A.length : Int)) = A.length := by rw [wrap_i64 (by omega)]; omega
  have w3 : IntKind.i64.wrap ((A.length : Int) + B.length) = ((A.length + B.length : Nat) : Int) := by rw [wrap_i64 (by omega)]; omega
  have g0 : ((A.length : Int) < 0) = False := eq_false (by omega)
  have g1 : (((A.length + B.length : Nat) : Int) < 0) = False := eq_false (by omega)
  simp only [↓vp, vq0, vq1, vq2, vq3, vr0, vr1, vr2, vr3, vr4, vr5, vr6, vr7, vr8, vr9, vr10, vr11, vr12, vr13, vr14, vr15, vr16, vr17, vr18, vr19, vr20, vr21, vr22, vr23, vr24, vr25, vr26, vr27, vr28, vr29, vr30, vr31, vr32, vr33, vr34, opS, fpS, okP, pack, nAl, allocA, shId, leaves, fillA, fillR, splice, Nat.reduceLT, Nat.reduceEqDiff, Nat.reduceLeDiff, Nat.reduceAdd, Nat.reduceSub, Nat.reduceMul, Int.reduceBEq, Int.reduceBNe, Int.reduceLT, Int.reduceLE, Int.reduceEq, reduceIte, reduceCtorEq, da, int, boolA, hl]
  rw [AW_loop]
  unfold c93L0
  simp only [↓vp, vq0, vq1, vq2, vq3, vr0, vr1, vr2, vr3, vr4, vr5, vr6, vr7, vr8, vr9, vr10, vr11, vr12, vr13, vr14, vr15, vr16, vr17, vr18, vr19, vr20, vr21, vr22, vr23, vr24, vr25, vr26, vr27, vr28, vr29, vr30, vr31, vr32, vr33, vr34, opS, fpS, okP, pack, nAl, allocA, shId, leaves, fillA, fillR, splice, Nat.reduceLT, Nat.reduceEqDiff, Nat.reduceLeDiff, Nat.reduceAdd, Nat.reduceSub, Nat.reduceMul, Int.reduceBEq, Int.reduceBNe, Int.reduceLT, Int.reduceLE, Int.reduceEq, reduceIte, reduceCtorEq, da, int, boolA, hl, i0, c0, w0, w2, g0]
  rw [AW_loop]
  simp only [↓vp, vq0, vq1, vq2, vq3, vr0, vr1, vr2, vr3, vr4, vr5, vr6, vr7, vr8, vr9, vr10, vr11, vr12, vr13, vr14, vr15, vr16, vr17, vr18, vr19, vr20, vr21, vr22, vr23, vr24, vr25, vr26, vr27, vr28, vr29, vr30, vr31, vr32, vr33, vr34, opS, fpS, okP, pack, nAl, allocA, shId, leaves, fillA, fillR, splice, Nat.reduceLT, Nat.reduceEqDiff, Nat.reduceLeDiff, Nat.reduceAdd, Nat.reduceSub, Nat.reduceMul, Int.reduceBEq, Int.reduceBNe, Int.reduceLT, Int.reduceLE, Int.reduceEq, reduceIte, reduceCtorEq, da, int, boolA, hl, i1, c1, w1, w3, g1]
  rw [AW_loop]
  simp only [↓vp, vq0, vq1, vq2, vq3, vr0, vr1, vr2, vr3, vr4, vr5, vr6, vr7, vr8, vr9, vr10, vr11, vr12, vr13, vr14, vr15, vr16, vr17, vr18, vr19, vr20, vr21, vr22, vr23, vr24, vr25, vr26, vr27, vr28, vr29, vr30, vr31, vr32, vr33, vr34, opS, fpS, okP, pack, nAl, allocA, shId, leaves, fillA, fillR, splice, Nat.reduceLT, Nat.reduceEqDiff, Nat.reduceLeDiff, Nat.reduceAdd, Nat.reduceSub, Nat.reduceMul, Int.reduceBEq, Int.reduceBNe, Int.reduceLT, Int.reduceLE, Int.reduceEq, reduceIte, reduceCtorEq, da, int, boolA]
  unfold c93R3
  by_cases hm : A.length + B.length = 0
  · obtain rfl : A = [] := List.eq_nil_of_length_eq_zero (by omega)
    obtain rfl : B = [] := List.eq_nil_of_length_eq_zero (by omega)
    have kg := fun K L Q => @KW_of ft _ _ _ Q _ _ (s1470 (hx K L))
    have r0 : ∀ H, rowsOf H (encI []) = some [] := fun _ => rfl
    simp only [↓vp, vq0, vq1, vq2, vq3, vr0, vr1, vr2, vr3, vr4, vr5, vr6, vr7, vr8, vr9, vr10, vr11, vr12, vr13, vr14, vr15, vr16, vr17, vr18, vr19, vr20, vr21, vr22, vr23, vr24, vr25, vr26, vr27, vr28, vr29, vr30, vr31, vr32, vr33, vr34, opS, fpS, okP, pack, nAl, allocA, shId, leaves, fillA, fillR, splice, Nat.reduceLT, Nat.reduceEqDiff, Nat.reduceLeDiff, Nat.reduceAdd, Nat.reduceSub, Nat.reduceMul, Int.reduceBEq, Int.reduceBNe, Int.reduceLT, Int.reduceLE, Int.reduceEq, reduceIte, reduceCtorEq, da, int, boolA, List.length_nil, Nat.add_zero, Int.natCast_zero, kg, hl, r0]
    rw [AW_loop]
    unfold c93L1
    simp only [↓vp, vq0, vq1, vq2, vq3, vr0, vr1, vr2, vr3, vr4, vr5, vr6, vr7, vr8, vr9, vr10, vr11, vr12, vr13, vr14, vr15, vr16, vr17, vr18, vr19, vr20, vr21, vr22, vr23, vr24, vr25, vr26, vr27, vr28, vr29, vr30, vr31, vr32, vr33, vr34, opS, fpS, okP, pack, nAl, allocA, shId, leaves, fillA, fillR, splice, Nat.reduceLT, Nat.reduceEqDiff, Nat.reduceLeDiff, Nat.reduceAdd, Nat.reduceSub, Nat.reduceMul, Int.reduceBEq, Int.reduceBNe, Int.reduceLT, Int.reduceLE, Int.reduceEq, reduceIte, reduceCtorEq, da, int, boolA, List.length_nil, Nat.add_zero, Int.natCast_zero, kg, hl, i0, c0, w0, r0]
    rw [AW_loop]
    simp only [↓vp, vq0, vq1, vq2, vq3, vr0, vr1, vr2, vr3, vr4, vr5, vr6, vr7, vr8, vr9, vr10, vr11, vr12, vr13, vr14, vr15, vr16, vr17, vr18, vr19, vr20, vr21, vr22, vr23, vr24, vr25, vr26, vr27, vr28, vr29, vr30, vr31, vr32, vr33, vr34, opS, fpS, okP, pack, nAl, allocA, shId, leaves, fillA, fillR, splice, Nat.reduceLT, Nat.reduceEqDiff, Nat.reduceLeDiff, Nat.reduceAdd, Nat.reduceSub, Nat.reduceMul, Int.reduceBEq, Int.reduceBNe, Int.reduceLT, Int.reduceLE, Int.reduceEq, reduceIte, reduceCtorEq, da, int, boolA, List.length_nil, Nat.add_zero, Int.natCast_zero, kg, hl, i1, c1, w1, r0]
    rw [AW_loop]
    simp only [↓vp, vq0, vq1, vq2, vq3, vr0, vr1, vr2, vr3, vr4, vr5, vr6, vr7, vr8, vr9, vr10, vr11, vr12, vr13, vr14, vr15, vr16, vr17, vr18, vr19, vr20, vr21, vr22, vr23, vr24, vr25, vr26, vr27, vr28, vr29, vr30, vr31, vr32, vr33, vr34, opS, fpS, okP, pack, nAl, allocA, shId, leaves, fillA, fillR, splice, Nat.reduceLT, Nat.reduceEqDiff, Nat.reduceLeDiff, Nat.reduceAdd, Nat.reduceSub, Nat.reduceMul, Int.reduceBEq, Int.reduceBNe, Int.reduceLT, Int.reduceLE, Int.reduceEq, reduceIte, reduceCtorEq, da, int, boolA, RetP_go, resT, resC, resN, retV1, retV2, retV3, retV0, frzFZ, takeM, Option.some.injEq, c93R2]
    rfl
  · have kg := fun K L Q => @KW_of ft _ _ _ Q _ _ (s1471 (m := A.length + B.length) (by omega) (by omega) (hx K L))
    have rI : ∀ H l, rowsOf H (encI l) = some (l.map itemC) := fun _ _ => rfl
    have e0 : (List.replicate (A.length + B.length) gzI).length = A.length + B.length := by simp
    have e1 : List.drop A.length (List.replicate (A.length + B.length) gzI) = List.replicate B.length gzI := by simp
    have e2 : (A.map itemC ++ List.replicate B.length gzI).length = A.length + B.length := by simp
    have e3 : List.take A.length (A.map itemC ++ List.replicate B.length gzI) = A.map itemC := by simp
    have e4 : List.drop (A.length + B.length) (A.map itemC ++ List.replicate B.length gzI) = [] := List.drop_eq_nil_of_le (by simp)
    have e5 : (A.map itemC ++ B.map itemC).length = A.length + B.length := by simp
    have e6 : List.take (A.length + B.length) (A.map itemC ++ B.map itemC) = (A ++ B).map itemC := by rw [← e5, List.take_length, List.map_append]
    have d1 : (A.length * 64 ≤ 140737488355328) = True := eq_true (by omega)
    have d2 : ((A.length + B.length) * 64 ≤ 140737488355328) = True := eq_true (by omega)
    simp only [int] at kg
    simp only [↓vp, vq0, vq1, vq2, vq3, vr0, vr1, vr2, vr3, vr4, vr5, vr6, vr7, vr8, vr9, vr10, vr11, vr12, vr13, vr14, vr15, vr16, vr17, vr18, vr19, vr20, vr21, vr22, vr23, vr24, vr25, vr26, vr27, vr28, vr29, vr30, vr31, vr32, vr33, vr34, opS, fpS, okP, pack, nAl, allocA, shId, leaves, fillA, fillR, splice, Nat.reduceLT, Nat.reduceEqDiff, Nat.reduceLeDiff, Nat.reduceAdd, Nat.reduceSub, Nat.reduceMul, Int.reduceBEq, Int.reduceBNe, Int.reduceLT, Int.reduceLE, Int.reduceEq, reduceIte, reduceCtorEq, da, int, boolA, kg, hl, hxe_nx, hx_hx]
    rw [AW_loop]
    unfold c93L1
    simp only [↓vp, vq0, vq1, vq2, vq3, vr0, vr1, vr2, vr3, vr4, vr5, vr6, vr7, vr8, vr9, vr10, vr11, vr12, vr13, vr14, vr15, vr16, vr17, vr18, vr19, vr20, vr21, vr22, vr23, vr24, vr25, vr26, vr27, vr28, vr29, vr30, vr31, vr32, vr33, vr34, opS, fpS, okP, pack, nAl, allocA, shId, leaves, fillA, fillR, splice, Nat.reduceLT, Nat.reduceEqDiff, Nat.reduceLeDiff, Nat.reduceAdd, Nat.reduceSub, Nat.reduceMul, Int.reduceBEq, Int.reduceBNe, Int.reduceLT, Int.reduceLE, Int.reduceEq, reduceIte, reduceCtorEq, da, int, boolA, hl, i0, c0, w0, rI, e0, e1, d1, allI, Nat.zero_le, Nat.le_add_right]
    rw [AW_loop]
    simp only [↓vp, vq0, vq1, vq2, vq3, vr0, vr1, vr2, vr3, vr4, vr5, vr6, vr7, vr8, vr9, vr10, vr11, vr12, vr13, vr14, vr15, vr16, vr17, vr18, vr19, vr20, vr21, vr22, vr23, vr24, vr25, vr26, vr27, vr28, vr29, vr30, vr31, vr32, vr33, vr34, opS, fpS, okP, pack, nAl, allocA, shId, leaves, fillA, fillR, splice, Nat.reduceLT, Nat.reduceEqDiff, Nat.reduceLeDiff, Nat.reduceAdd, Nat.reduceSub, Nat.reduceMul, Int.reduceBEq, Int.reduceBNe, Int.reduceLT, Int.reduceLE, Int.reduceEq, reduceIte, reduceCtorEq, da, int, boolA, hl, i1, c1, w1, rI, e2, e3, e4, d2, allI, Nat.le_add_right]
    rw [AW_loop]
    simp only [↓vp, vq0, vq1, vq2, vq3, vr0, vr1, vr2, vr3, vr4, vr5, vr6, vr7, vr8, vr9, vr10, vr11, vr12, vr13, vr14, vr15, vr16, vr17, vr18, vr19, vr20, vr21, vr22, vr23, vr24, vr25, vr26, vr27, vr28, vr29, vr30, vr31, vr32, vr33, vr34, opS, fpS, okP, pack, nAl, allocA, shId, leaves, fillA, fillR, splice, Nat.reduceLT, Nat.reduceEqDiff, Nat.reduceLeDiff, Nat.reduceAdd, Nat.reduceSub, Nat.reduceMul, Int.reduceBEq, Int.reduceBNe, Int.reduceLT, Int.reduceLE, Int.reduceEq, reduceIte, reduceCtorEq, da, int, boolA, RetP_go, resT, resC, resN, retV1, retV2, retV3, retV0, frzFZ, takeM, Option.some.injEq, c93R2, e5, e6]
    try rfl
theorem s1480 (H : Heap) : callL ft (.fn (.func 148) [] []) [.sc (.slice none 0 0), .sc (.int .i64 0)] H = some (.sc (.slice none 0 0), H) := by
  refine call_o (H1 := H) rfl (by simp) ?_
  unfold c148 r148 RetO
  have w0 : IntKind.i64.wrap (0 - 0) = 0 := rfl
  simp only [↓vp, vq0, vq1, vq2, vq3, vr0, vr1, vr2, vr3, vr4, vr5, vr6, vr7, vr8, vr9, vr10, vr11, vr12, vr13, vr14, vr15, vr16, vr17, vr18, vr19, vr20, vr21, vr22, vr23, vr24, vr25, vr26, vr27, vr28, vr29, vr30, vr31, vr32, vr33, vr34, opS, fpS, okP, pack, nAl, allocA, shId, leaves, fillA, fillR, splice, Nat.reduceLT, Nat.reduceEqDiff, Nat.reduceLeDiff, Nat.reduceAdd, Nat.reduceSub, Nat.reduceMul, Int.reduceBEq, Int.reduceBNe, Int.reduceLT, Int.reduceLE, Int.reduceEq, reduceIte, reduceCtorEq, da, int, boolA, VW_appz, VW_cap, opI0, opI1, w0]
  exact ⟨rfl, hx_nil _⟩
theorem s1481 {m : Nat} (h0 : 0 < m) (hm : m ≤ 4000) (H : Heap) : callL ft (.fn (.func 148) [] []) [.sc (.slice none 0 0), int m] H = some (.sl H.next 0 0, hx H [.row false 2 (List.replicate m gzK)]) := by
  refine call_o rfl (by simp) ?_
  unfold c148 r148 RetO
  have w0 : IntKind.i64.wrap (0 - 0) = 0 := rfl
  have w1 : IntKind.i64.wrap ((m : Int) - 0) = (m : Int) := by rw [wrap_i64 (by omega)]; omega
  have g0 : ((m : Int) < 0) = False := eq_false (by omega)
  have g1 : ((0 : Int) < m) = True := eq_true (by omega)
  have g2 : (m = 0) = False := eq_false (by omega)
  have d2 : (m * 32 ≤ 140737488355328) = True := eq_true (by omega)
  have d3 : ((0 : Int) ≤ m) = True := eq_true (by omega)
  have ha : allSz 2 (List.replicate m gzK) = true := allSz_rep rfl
  have hs : sliceA (hx H [.row false 2 (List.replicate m gzK)]) 2 (.sl H.next 0 m) none (some 0) none = some (.sl H.next 0 0) := slice_sl0 (by rw [hx_get0]; rfl) (by simp)
  unfold gzK at *
  simp only [↓vp, vq0, vq1, vq2, vq3, vr0, vr1, vr2, vr3, vr4, vr5, vr6, vr7, vr8, vr9, vr10, vr11, vr12, vr13, vr14, vr15, vr16, vr17, vr18, vr19, vr20, vr21, vr22, vr23, vr24, vr25, vr26, vr27, vr28, vr29, vr30, vr31, vr32, vr33, vr34, opS, fpS, okP, pack, nAl, allocA, shId, leaves, fillA, fillR, splice, Nat.reduceLT, Nat.reduceEqDiff, Nat.reduceLeDiff, Nat.reduceAdd, Nat.reduceSub, Nat.reduceMul, Int.reduceBEq, Int.reduceBNe, Int.reduceLT, Int.reduceLE, Int.reduceEq, reduceIte, reduceCtorEq, da, int, boolA, VW_appz, VW_cap, opI0, opI1, w0, w1, g0, g1, g2, slice_nil0, Int.toNat_natCast, List.length_replicate, ha, d2, d3, hs]
  try rfl
theorem concK {A B : List KidM} {args : List AV} {H H1 : Heap} (hz : frzCells H args = some ([.lst [[encK A], [encK B]]], H1)) (ha : A.length ≤ 2000) (hb : B.length ≤ 2000) : callL ft (.fn (.func 94) [] []) args H = some (encK (A ++ B), H1) := by
  refine call_p rfl (by simpa using hz) (by simp) ?_
  unfold c94 r94
  have i0 : ∀ H, iaddrA H none 1 (.lst [[encK A], [encK B]]) 0 = some (.pim [[encK A], [encK B]] 0 0) := fun _ => rfl
  have i1 : ∀ H, iaddrA H none 1 (.lst [[encK A], [encK B]]) 1 = some (.pim [[encK A], [encK B]] 1 0) := fun _ => rfl
  have c0 : ∀ H, cellsAt H (.pim [[encK A], [encK B]] 0 0) 1 = some [encK A] := fun _ => rfl
  have c1 : ∀ H, cellsAt H (.pim [[encK A], [encK B]] 1 0) 1 = some [encK B] := fun _ => rfl
  have hl : ∀ H, lenV H 0 (.lst [[encK A], [encK B]]) = some (.sc (.int .i64 2), H) := fun _ => rfl
  have w0 : IntKind.i64.wrap (0 + 1) = 1 := rfl
  have w1 : IntKind.i64.wrap (1 + 1) = 2 := rfl
  have w2 : IntKind.i64.wrap (0 + (A.length : Int)) = A.length := by rw [wrap_i64 (by omega)]; omega
  have w3 : IntKind.i64.wrap ((A.length : Int) + B.length) = ((A.length + B.length : Nat) : Int) := by rw [wrap_i64 (by omega)]; omega
  have g0 : ((A.length : Int) < 0) = False := eq_false (by omega)
  have g1 : (((A.length + B.length : Nat) : Int) < 0) = False := eq_false (by omega)
  simp only [↓vp, vq0, vq1, vq2, vq3, vr0, vr1, vr2, vr3, vr4, vr5, vr6, vr7, vr8, vr9, vr10, vr11, vr12, vr13, vr14, vr15, vr16, vr17, vr18, vr19, vr20, vr21, vr22, vr23, vr24, vr25, vr26, vr27, vr28, vr29, vr30, vr31, vr32, vr33, vr34, opS, fpS, okP, pack, nAl, allocA, shId, leaves, fillA, fillR, splice, Nat.reduceLT, Nat.reduceEqDiff, Nat.reduceLeDiff, Nat.reduceAdd, Nat.reduceSub, Nat.reduceMul, Int.reduceBEq, Int.reduceBNe, Int.reduceLT, Int.reduceLE, Int.reduceEq, reduceIte, reduceCtorEq, da, int, boolA, hl]
  rw [AW_loop]
  unfold c94L0
  simp only [↓vp, vq0, vq1, vq2, vq3, vr0, vr1, vr2, vr3, vr4, vr5, vr6, vr7, vr8, vr9, vr10, vr11, vr12, vr13, vr14, vr15, vr16, vr17, vr18, vr19, vr20, vr21, vr22, vr23, vr24, vr25, vr26, vr27, vr28, vr29, vr30, vr31, vr32, vr33, vr34, opS, fpS, okP, pack, nAl, allocA, shId, leaves, fillA, fillR, splice, Nat.reduceLT, Nat.reduceEqDiff, Nat.reduceLeDiff, Nat.reduceAdd, Nat.reduceSub, Nat.reduceMul, Int.reduceBEq, Int.reduceBNe, Int.reduceLT, Int.reduceLE, Int.reduceEq, reduceIte, reduceCtorEq, da, int, boolA, hl, i0, c0, w0, w2, g0]
  rw [AW_loop]
  simp only [↓vp, vq0, vq1, vq2, vq3, vr0, vr1, vr2, vr3, vr4, vr5, vr6, vr7, vr8, vr9, vr10, vr11, vr12, vr13, vr14, vr15, vr16, vr17, vr18, vr19, vr20, vr21, vr22, vr23, vr24, vr25, vr26, vr27, vr28, vr29, vr30, vr31, vr32, vr33, vr34, opS, fpS, okP, pack, nAl, allocA, shId, leaves, fillA, fillR, splice, Nat.reduceLT, Nat.reduceEqDiff, Nat.reduceLeDiff, Nat.reduceAdd, Nat.reduceSub, Nat.reduceMul, Int.reduceBEq, Int.reduceBNe, Int.reduceLT, Int.reduceLE, Int.reduceEq, reduceIte, reduceCtorEq, da, int, boolA, hl, i1, c1, w1, w3, g1]
  rw [AW_loop]
  simp only [↓vp, vq0, vq1, vq2, vq3, vr0, vr1, vr2, vr3, vr4, vr5, vr6, vr7, vr8, vr9, vr10, vr11, vr12, vr13, vr14, vr15, vr16, vr17, vr18, vr19, vr20, vr21, vr22, vr23, vr24, vr25, vr26, vr27, vr28, vr29, vr30, vr31, vr32, vr33, vr34, opS, fpS, okP, pack, nAl, allocA, shId, leaves, fillA, fillR, splice, Nat.reduceLT, Nat.reduceEqDiff, Nat.reduceLeDiff, Nat.reduceAdd, Nat.reduceSub, Nat.reduceMul, Int.reduceBEq, Int.reduceBNe, Int.reduceLT, Int.reduceLE, Int.reduceEq, reduceIte, reduceCtorEq, da, int, boolA]
  unfold c94R3
  by_cases hm : A.length + B.length = 0
  · obtain rfl : A = [] := List.eq_nil_of_length_eq_zero (by omega)
    obtain rfl : B = [] := List.eq_nil_of_length_eq_zero (by omega)
    have kg := fun K L Q => @KW_of ft _ _ _ Q _ _ (s1480 (hx K L))
    have r0 : ∀ H, rowsOf H (encK []) = some [] := fun _ => rfl
    simp only [↓vp, vq0, vq1, vq2, vq3, vr0, vr1, vr2, vr3, vr4, vr5, vr6, vr7, vr8, vr9, vr10, vr11, vr12, vr13, vr14, vr15, vr16, vr17, vr18, vr19, vr20, vr21, vr22, vr23, vr24, vr25, vr26, vr27, vr28, vr29, vr30, vr31, vr32, vr33, vr34, opS, fpS, okP, pack, nAl, allocA, shId, leaves, fillA, fillR, splice, Nat.reduceLT, Nat.reduceEqDiff, Nat.reduceLeDiff, Nat.reduceAdd, Nat.reduceSub, Nat.reduceMul, Int.reduceBEq, Int.reduceBNe, Int.reduceLT, Int.reduceLE, Int.reduceEq, reduceIte, reduceCtorEq, da, int, boolA, List.length_nil, Nat.add_zero, Int.natCast_zero, kg, hl, r0]
    rw [AW_loop]
    unfold c94L1
    simp only [↓vp, vq0, vq1, vq2, vq3, vr0, vr1, vr2, vr3, vr4, vr5, vr6, vr7, vr8, vr9, vr10, vr11, vr12, vr13, vr14, vr15, vr16, vr17, vr18, vr19, vr20, vr21, vr22, vr23, vr24, vr25, vr26, vr27, vr28, vr29, vr30, vr31, vr32, vr33, vr34, opS, fpS, okP, pack, nAl, allocA, shId, leaves, fillA, fillR, splice, Nat.reduceLT, Nat.reduceEqDiff, Nat.reduceLeDiff, Nat.reduceAdd, Nat.reduceSub, Nat.reduceMul, Int.reduceBEq, Int.reduceBNe, Int.reduceLT, Int.reduceLE, Int.reduceEq, reduceIte, reduceCtorEq, da, int, boolA, List.length_nil, Nat.add_zero, Int.natCast_zero, kg, hl, i0, c0, w0, r0]
    rw [AW_loop]
    simp only [↓vp, vq0, vq1, vq2, vq3, vr0, vr1, vr2, vr3, vr4, vr5, vr6, vr7, vr8, vr9, vr10, vr11, vr12, vr13, vr14, vr15, vr16, vr17, vr18, vr19, vr20, vr21, vr22, vr23, vr24, vr25, vr26, vr27, vr28, vr29, vr30, vr31, vr32, vr33, vr34, opS, fpS, okP, pack, nAl, allocA, shId, leaves, fillA, fillR, splice, Nat.reduceLT, Nat.reduceEqDiff, Nat.reduceLeDiff, Nat.reduceAdd, Nat.reduceSub, Nat.reduceMul, Int.reduceBEq, Int.reduceBNe, Int.reduceLT, Int.reduceLE, Int.reduceEq, reduceIte, reduceCtorEq, da, int, boolA, List.length_nil, Nat.add_zero, Int.natCast_zero, kg, hl, i1, c1, w1, r0]
    rw [AW_loop]
    simp only [↓vp, vq0, vq1, vq2, vq3, vr0, vr1, vr2, vr3, vr4, vr5, vr6, vr7, vr8, vr9, vr10, vr11, vr12, vr13, vr14, vr15, vr16, vr17, vr18, vr19, vr20, vr21, vr22, vr23, vr24, vr25, vr26, vr27, vr28, vr29, vr30, vr31, vr32, vr33, vr34, opS, fpS, okP, pack, nAl, allocA, shId, leaves, fillA, fillR, splice, Nat.reduceLT, Nat.reduceEqDiff, Nat.reduceLeDiff, Nat.reduceAdd, Nat.reduceSub, Nat.reduceMul, Int.reduceBEq, Int.reduceBNe, Int.reduceLT, Int.reduceLE, Int.reduceEq, reduceIte, reduceCtorEq, da, int, boolA, RetP_go, resT, resC, resN, retV1, retV2, retV3, retV0, frzFZ, takeM, Option.some.injEq, c94R2]
    rfl
  · have kg := fun K L Q => @KW_of ft _ _ _ Q _ _ (s1481 (m := A.length + B.length) (by omega) (by omega) (hx K L))
    have rI : ∀ H l, rowsOf H (encK l) = some (l.map kidC) := fun _ _ => rfl
    have e0 : (List.replicate (A.length + B.length) gzK).length = A.length + B.length := by simp
    have e1 : List.drop A.length (List.replicate (A.length + B.length) gzK) = List.replicate B.length gzK := by simp
    have e2 : (A.map kidC ++ List.replicate B.length gzK).length = A.length + B.length := by simp
    have e3 : List.take A.length (A.map kidC ++ List.replicate B.length gzK) = A.map kidC := by simp
    have e4 : List.drop (A.length + B.length) (A.map kidC ++ List.replicate B.length gzK) = [] := List.drop_eq_nil_of_le (by simp)
    have e5 : (A.map kidC ++ B.map kidC).length = A.length + B.length := by simp
    have e6 : List.take (A.length + B.length) (A.map kidC ++ B.map kidC) = (A ++ B).map kidC := by rw [← e5, List.take_length, List.map_append]
    have d1 : (A.length * 32 ≤ 140737488355328) = True := eq_true (by omega)
    have d2 : ((A.length + B.length) * 32 ≤ 140737488355328) = True := eq_true (by omega)
    simp only [int] at kg
    simp only [↓vp, vq0, vq1, vq2, vq3, vr0, vr1, vr2, vr3, vr4, vr5, vr6, vr7, vr8, vr9, vr10, vr11, vr12, vr13, vr14, vr15, vr16, vr17, vr18, vr19, vr20, vr21, vr22, vr23, vr24, vr25, vr26, vr27, vr28, vr29, vr30, vr31, vr32, vr33, vr34, opS, fpS, okP, pack, nAl, allocA, shId, leaves, fillA, fillR, splice, Nat.reduceLT, Nat.reduceEqDiff, Nat.reduceLeDiff, Nat.reduceAdd, Nat.reduceSub, Nat.reduceMul, Int.reduceBEq, Int.reduceBNe, Int.reduceLT, Int.reduceLE, Int.reduceEq, reduceIte, reduceCtorEq, da, int, boolA, kg, hl, hxe_nx, hx_hx]
    rw [AW_loop]
    unfold c94L1
    simp only [↓vp, vq0, vq1, vq2, vq3, vr0, vr1, vr2, vr3, vr4, vr5, vr6, vr7, vr8, vr9, vr10, vr11, vr12, vr13, vr14, vr15, vr16, vr17, vr18, vr19, vr20, vr21, vr22, vr23, vr24, vr25, vr26, vr27, vr28, vr29, vr30, vr31, vr32, vr33, vr34, opS, fpS, okP, pack, nAl, allocA, shId, leaves, fillA, fillR, splice, Nat.reduceLT, Nat.reduceEqDiff, Nat.reduceLeDiff, Nat.reduceAdd, Nat.reduceSub, Nat.reduceMul, Int.reduceBEq, Int.reduceBNe, Int.reduceLT, Int.reduceLE, Int.reduceEq, reduceIte, reduceCtorEq, da, int, boolA, hl, i0, c0, w0, rI, e0, e1, d1, allK, Nat.zero_le, Nat.le_add_right]
    rw [AW_loop]
    simp only [↓vp, vq0, vq1, vq2, vq3, vr0, vr1, vr2, vr3, vr4, vr5, vr6, vr7, vr8, vr9, vr10, vr11, vr12, vr13, vr14, vr15, vr16, vr17, vr18, vr19, vr20, vr21, vr22, vr23, vr24, vr25, vr26, vr27, vr28, vr29, vr30, vr31, vr32, vr33, vr34, opS, fpS, okP, pack, nAl, allocA, shId, leaves, fillA, fillR, splice, Nat.reduceLT, Nat.reduceEqDiff, Nat.reduceLeDiff, Nat.reduceAdd, Nat.reduceSub, Nat.reduceMul, Int.reduceBEq, Int.reduceBNe, Int.reduceLT, Int.reduceLE, Int.reduceEq, reduceIte, reduceCtorEq, da, int, boolA, hl, i1, c1, w1, rI, e2, e3, e4, d2, allK, Nat.le_add_right]
    rw [AW_loop]
    simp only [↓vp, vq0, vq1, vq2, vq3, vr0, vr1, vr2, vr3, vr4, vr5, vr6, vr7, vr8, vr9, vr10, vr11, vr12, vr13, vr14, vr15, vr16, vr17, vr18, vr19, vr20, vr21, vr22, vr23, vr24, vr25, vr26, vr27, vr28, vr29, vr30, vr31, vr32, vr33, vr34, opS, fpS, okP, pack, nAl, allocA, shId, leaves, fillA, fillR, splice, Nat.reduceLT, Nat.reduceEqDiff, Nat.reduceLeDiff, Nat.reduceAdd, Nat.reduceSub, Nat.reduceMul, Int.reduceBEq, Int.reduceBNe, Int.reduceLT, Int.reduceLE, Int.reduceEq, reduceIte, reduceCtorEq, da, int, boolA, RetP_go, resT, resC, resN, retV1, retV2, retV3, retV0, frzFZ, takeM, Option.some.injEq, c94R2, e5, e6]
    try rfl
end Go.VI

set_option linter.unusedVariables false
set_option linter.unusedSimpArgs false
set_option maxRecDepth 100000
namespace Go.VI
attribute [local congr] AW_congr OW_congr DW_congr NW_congr VW_congr GW_congr PW_congr KW_congr ite_congr' GV_congr CV_congr
theorem kcloK0 {L : List Blk} {Q : AV → Heap → Prop} : KW ft (.fn (.func 91) [] []) [encK []] (hx Heap.empty L) Q ↔ Q (encK []) (hx Heap.empty (L ++ [.dead])) := by
  refine k_prim (p := cloP 2 32) rfl ?_ ?_
  · show some (AV.lst [], (hx Heap.empty L).pad 1) = _
    rw [hx_pad]
    rfl
  · rw [hxe_nx, hxe_nx]
    simp
theorem frz_two {A B : AV} {L : List Blk} {id : Nat} (hL : L[id]? = some (.row false 1 [[A], [B]])) : frzCells (hx Heap.empty L) [.sl id 0 2] = some ([.lst [[A], [B]]], hx Heap.empty (L.set id (.row true 1 [[A], [B]]))) := by
  rw [frzCells_eq, frzL_cons, frz_sl, hxe_get', hL]
  simp [frzL_nil, hxe_set]
theorem kconcI (A B : List ItemM) (ha : A.length ≤ 2000) (hb : B.length ≤ 2000) {L : List Blk} {id : Nat} (hL : L[id]? = some (.row false 1 [[encI A], [encI B]])) {Q : AV → Heap → Prop} :
    KW ft (.fn (.func 93) [] []) [.sl id 0 2] (hx Heap.empty L) Q ↔ Q (encI (A ++ B)) (hx Heap.empty (L.set id (.row true 1 [[encI A], [encI B]]))) := KW_of (concI (frz_two hL) ha hb)
theorem kconcK (A B : List KidM) (ha : A.length ≤ 2000) (hb : B.length ≤ 2000) {L : List Blk} {id : Nat} (hL : L[id]? = some (.row false 1 [[encK A], [encK B]])) {Q : AV → Heap → Prop} :
    KW ft (.fn (.func 94) [] []) [.sl id 0 2] (hx Heap.empty L) Q ↔ Q (encK (A ++ B)) (hx Heap.empty (L.set id (.row true 1 [[encK A], [encK B]]))) := KW_of (concK (frz_two hL) ha hb)
theorem s27 (a b : NodeM) (key : Bytes) (ha1 : a.items.length ≤ 1000) (ha2 : a.kids.length ≤ 1000) (hb1 : b.items.length ≤ 1000) (hb2 : b.kids.length ≤ 1000) (hk : key.length ≤ 1000000) (H : Heap) :
    callL ft (.fn (.func 27) [] []) [.agg (nodeC a), .agg (nodeC b), encB key] H = some (.agg (nodeC (joinM a b key)), H) := by
  refine call_p (as' := [.agg (nodeC a), .agg (nodeC b), encB key]) rfl rfl (by simp) ?_
  unfold c27 r27
  have pI : ∀ id, pureV ft (.fn (.func 93) [] []) [.sl id 0 2] = some (true, [id]) := fun _ => rfl
  have pK : ∀ id, pureV ft (.fn (.func 94) [] []) [.sl id 0 2] = some (true, [id]) := fun _ => rfl
  have sI : sidP [(0, encI a.items), (1, encI b.items)] = some [] := rfl
  have hj : nodeC (joinM a b key) = [.sc (.bool a.leaf), encI (a.items ++ b.items), encK (a.kids ++ withKey key b.kids)] := rfl
  rw [hj]
  cases hb : b.kids with
  | nil =>
    have kc := fun L Q => @kcloK0 L Q
    have sK : sidP [(0, encK a.kids), (1, encK [])] = some [] := rfl
    have k1 := fun L h Q => @kconcI a.items b.items (by omega) (by omega) L 4 h Q
    have k2 := fun L h Q => @kconcK a.kids [] (by omega) (by simp) L 5 h Q
    simp only [↓vp, vq0, vq1, vq2, vq3, vr0, vr1, vr2, vr3, vr4, vr5, vr6, vr7, vr8, vr9, vr10, vr11, vr12, vr13, vr14, vr15, vr16, vr17, vr18, vr19, vr20, vr21, vr22, vr23, vr24, vr25, vr26, vr27, vr28, vr29, vr30, vr31, vr32, vr33, vr34, opS, fpS, okP, pack, nAl, allocA, shId, leaves, fillA, fillR, splice, Nat.reduceLT, Nat.reduceEqDiff, Nat.reduceLeDiff, Nat.reduceAdd, Nat.reduceSub, Nat.reduceMul, Int.reduceBEq, Int.reduceBNe, Int.reduceLT, Int.reduceLE, Int.reduceEq, reduceIte, reduceCtorEq, da, int, boolA, hb]
    simp only [↓vp, vq0, vq1, vq2, vq3, vr0, vr1, vr2, vr3, vr4, vr5, vr6, vr7, vr8, vr9, vr10, vr11, vr12, vr13, vr14, vr15, vr16, vr17, vr18, vr19, vr20, vr21, vr22, vr23, vr24, vr25, vr26, vr27, vr28, vr29, vr30, vr31, vr32, vr33, vr34, opS, fpS, okP, pack, nAl, allocA, shId, leaves, fillA, fillR, splice, Nat.reduceLT, Nat.reduceEqDiff, Nat.reduceLeDiff, Nat.reduceAdd, Nat.reduceSub, Nat.reduceMul, Int.reduceBEq, Int.reduceBNe, Int.reduceLT, Int.reduceLE, Int.reduceEq, reduceIte, reduceCtorEq, da, int, boolA, RetP_go, resT, resC, resN, retV1, retV2, retV3, retV0, frzFZ, takeM, Option.some.injEq, nodeC, hb, kc, sI, sK, pI, pK, k1, k2, compat_ll, apt, nin, Int.natCast_zero]
    exact ⟨rfl, by simp [withKey]⟩
  | cons x r =>
    have kc := fun L Q => @kcloK (x :: r) (by simp) (by rw [← hb]; exact hb2) L Q
    have kb := fun K L Q => @kcloB key hk K L Q
    have sK : ∀ id n, sidP [(0, encK a.kids), (1, .sl id 0 n)] = some [id] := fun _ _ => rfl
    have k1 := fun L h Q => @kconcI a.items b.items (by omega) (by omega) L 5 h Q
    have k2 : ∀ L, L[6]? = some (.row false 1 [[encK a.kids], [.lst ((encB key :: List.drop 1 (kidC x)) :: r.map kidC)]]) → ∀ Q, KW ft (.fn (.func 94) [] []) [.sl 6 0 2] (hx Heap.empty L) Q ↔ Q (encK (a.kids ++ ⟨key, x.ref⟩ :: r)) (hx Heap.empty (L.set 6 (.row true 1 [[encK a.kids], [.lst ((encB key :: List.drop 1 (kidC x)) :: r.map kidC)]]))) := fun L h Q => @kconcK a.kids (⟨key, x.ref⟩ :: r) (by omega) (by rw [hb] at hb2; simp at hb2 ⊢; omega) L 6 h Q
    have g1 : ((0 : Int) < ((r.length + 1 : Nat) : Int)) = True := eq_true (by omega)
    simp only [↓vp, vq0, vq1, vq2, vq3, vr0, vr1, vr2, vr3, vr4, vr5, vr6, vr7, vr8, vr9, vr10, vr11, vr12, vr13, vr14, vr15, vr16, vr17, vr18, vr19, vr20, vr21, vr22, vr23, vr24, vr25, vr26, vr27, vr28, vr29, vr30, vr31, vr32, vr33, vr34, opS, fpS, okP, pack, nAl, allocA, shId, leaves, fillA, fillR, splice, Nat.reduceLT, Nat.reduceEqDiff, Nat.reduceLeDiff, Nat.reduceAdd, Nat.reduceSub, Nat.reduceMul, Int.reduceBEq, Int.reduceBNe, Int.reduceLT, Int.reduceLE, Int.reduceEq, reduceIte, reduceCtorEq, da, int, boolA, hb]
    simp only [↓vp, vq0, vq1, vq2, vq3, vr0, vr1, vr2, vr3, vr4, vr5, vr6, vr7, vr8, vr9, vr10, vr11, vr12, vr13, vr14, vr15, vr16, vr17, vr18, vr19, vr20, vr21, vr22, vr23, vr24, vr25, vr26, vr27, vr28, vr29, vr30, vr31, vr32, vr33, vr34, opS, fpS, okP, pack, nAl, allocA, shId, leaves, fillA, fillR, splice, Nat.reduceLT, Nat.reduceEqDiff, Nat.reduceLeDiff, Nat.reduceAdd, Nat.reduceSub, Nat.reduceMul, Int.reduceBEq, Int.reduceBNe, Int.reduceLT, Int.reduceLE, Int.reduceEq, reduceIte, reduceCtorEq, da, int, boolA, RetP_go, resT, resC, resN, retV1, retV2, retV3, retV0, frzFZ, takeM, Option.some.injEq, nodeC, hb, kc, kb, g1]
    rw [ia_sl0 rfl (by simp)]
    simp only [↓vp, vq0, vq1, vq2, vq3, vr0, vr1, vr2, vr3, vr4, vr5, vr6, vr7, vr8, vr9, vr10, vr11, vr12, vr13, vr14, vr15, vr16, vr17, vr18, vr19, vr20, vr21, vr22, vr23, vr24, vr25, vr26, vr27, vr28, vr29, vr30, vr31, vr32, vr33, vr34, opS, fpS, okP, pack, nAl, allocA, shId, leaves, fillA, fillR, splice, Nat.reduceLT, Nat.reduceEqDiff, Nat.reduceLeDiff, Nat.reduceAdd, Nat.reduceSub, Nat.reduceMul, Int.reduceBEq, Int.reduceBNe, Int.reduceLT, Int.reduceLE, Int.reduceEq, reduceIte, reduceCtorEq, da, int, boolA, RetP_go, resT, resC, resN, retV1, retV2, retV3, retV0, frzFZ, takeM, Option.some.injEq, kb, sI, sK, pI, pK, k1, k2, takeM, compat_ll, apt, nin]
    exact ⟨rfl, rfl⟩
end Go.VI

set_option linter.unusedVariables false
set_option linter.unusedSimpArgs false
set_option maxRecDepth 100000
namespace Go.VI
attribute [local congr] AW_congr OW_congr DW_congr NW_congr VW_congr GW_congr PW_congr KW_congr ite_congr' GV_congr CV_congr
theorem vRows_K (H : Heap) (id : Nat) (l : List KidM) : vRows H id (encK l) = some (l.map kidC) := by
  cases l <;> rfl
theorem rep_sl_eval {L : List Blk} {id i j len : Nat} {rows : List (List AV)} {l : List KidM} (hi : L[id]? = some (.row false 2 rows)) (hlen : len = rows.length) (hk : i ≤ j) (hj : j ≤ len) (hb : len ≤ 2000) (hl : l.length ≤ 2000) :
    repP 2 32 [.sl id 0 len, .sc (.int .i64 (i : Int)), .sc (.int .i64 (j : Int)), encK l] (hx Heap.empty L) = some (.sl L.length 0 (rows.take i ++ l.map kidC ++ rows.drop j).length, hx Heap.empty (L.set id .dead ++ [.row false 2 (rows.take i ++ l.map kidC ++ rows.drop j)])) := by
  subst hlen
  unfold repP cutP
  simp only [hxe_get', hi, vRows_K, Option.bind_some]
  rw [if_pos ⟨trivial, by decide, Nat.le_refl _, by omega, by omega, by omega, allK l, by simp; omega⟩]
  simp only [hxe_nx, List.take_length, Int.toNat_natCast, Nat.add_zero, List.replicate_zero, hx_nil]
  refine congrArg some (Prod.ext rfl ?_)
  simp only [hxe_set]
  rw [hxe_put, if_neg (by simp)]
theorem krep {L : List Blk} {id i j len : Nat} {rows : List (List AV)} {l : List KidM} (hi : L[id]? = some (.row false 2 rows)) (hlen : len = rows.length) (hk : i ≤ j) (hj : j ≤ len) (hb : len ≤ 2000) (hl : l.length ≤ 2000) {Q : AV → Heap → Prop} :
    KW ft (.fn (.func 103) [] []) [.sl id 0 len, .sc (.int .i64 (i : Int)), .sc (.int .i64 (j : Int)), encK l] (hx Heap.empty L) Q ↔ Q (.sl L.length 0 (rows.take i ++ l.map kidC ++ rows.drop j).length) (hx Heap.empty (L.set id .dead ++ [.row false 2 (rows.take i ++ l.map kidC ++ rows.drop j)])) :=
  k_prim rfl (rep_sl_eval hi hlen hk hj hb hl) (by rw [hxe_nx, hxe_nx]; simp)
def swapM (n : NodeM) (k many : Nat) (l : List KidM) : NodeM := ⟨n.leaf, n.items, n.kids.take k ++ l ++ n.kids.drop (k + many)⟩
theorem s32 (n : NodeM) (k many : Nat) (l : List KidM) (h0 : n.kids ≠ []) (h2 : n.kids.length ≤ 1000) (hl : l.length ≤ 1000) (hk : k + many ≤ n.kids.length) {args : List AV} {H H1 : Heap} (hz : frzCells H args = some ([.agg (nodeC n), int k, int many, encK l], H1)) :
    callL ft (.fn (.func 32) [] []) args H = some (.agg (nodeC (swapM n k many l)), H1) := by
  refine call_p rfl (by simpa using hz) (by simp) ?_
  unfold c32 r32
  have hj : nodeC (swapM n k many l) = [.sc (.bool n.leaf), encI n.items, .lst (n.kids.map kidC |>.take k |>.append (l.map kidC) |>.append ((n.kids.map kidC).drop (k + many)))] := by
    simp only [swapM, nodeC, encK, List.map_append, List.map_take, List.map_drop]
    rfl
  have kc := fun L Q => @kcloK n.kids h0 h2 L Q
  have g1 : ((0 : Int) > (k : Int)) = False := eq_false (by omega)
  have g2 : ((n.kids.length : Int) < k) = False := eq_false (by omega)
  have g3 : ((0 : Int) > (many : Int)) = False := eq_false (by omega)
  have g4 : ((n.kids.length : Int) - k < many) = False := eq_false (by omega)
  have w1 : IntKind.i64.wrap ((n.kids.length : Int) - k) = (n.kids.length : Int) - k := wrap_i64 (by omega)
  have w2 : IntKind.i64.wrap ((k : Int) + many) = ((k + many : Nat) : Int) := by rw [wrap_i64 (by omega)]; omega
  have kr := fun L h Q => @krep L 3 k (k + many) n.kids.length (n.kids.map kidC) l h (by simp) (by omega) hk (by omega) (by omega) Q
  have p1 : ∀ args, pureV ft (.fn (.func 91) [] []) args = none := fun _ => rfl
  have p2 : ∀ args, pureV ft (.fn (.func 103) [] []) args = none := fun _ => rfl
  rw [hj]
  simp only [↓vp, vq0, vq1, vq2, vq3, vr0, vr1, vr2, vr3, vr4, vr5, vr6, vr7, vr8, vr9, vr10, vr11, vr12, vr13, vr14, vr15, vr16, vr17, vr18, vr19, vr20, vr21, vr22, vr23, vr24, vr25, vr26, vr27, vr28, vr29, vr30, vr31, vr32, vr33, vr34, opS, fpS, okP, pack, nAl, allocA, shId, leaves, fillA, fillR, splice, Nat.reduceLT, Nat.reduceEqDiff, Nat.reduceLeDiff, Nat.reduceAdd, Nat.reduceSub, Nat.reduceMul, Int.reduceBEq, Int.reduceBNe, Int.reduceLT, Int.reduceLE, Int.reduceEq, reduceIte, reduceCtorEq, da, int, boolA, nodeC, g1, g2, g3, g4, w1, w2]
  simp only [↓vp, vq0, vq1, vq2, vq3, vr0, vr1, vr2, vr3, vr4, vr5, vr6, vr7, vr8, vr9, vr10, vr11, vr12, vr13, vr14, vr15, vr16, vr17, vr18, vr19, vr20, vr21, vr22, vr23, vr24, vr25, vr26, vr27, vr28, vr29, vr30, vr31, vr32, vr33, vr34, opS, fpS, okP, pack, nAl, allocA, shId, leaves, fillA, fillR, splice, Nat.reduceLT, Nat.reduceEqDiff, Nat.reduceLeDiff, Nat.reduceAdd, Nat.reduceSub, Nat.reduceMul, Int.reduceBEq, Int.reduceBNe, Int.reduceLT, Int.reduceLE, Int.reduceEq, reduceIte, reduceCtorEq, da, int, boolA, RetP_go, resT, resC, resN, retV1, retV2, retV3, retV0, frzFZ, takeM, Option.some.injEq, nodeC, g1, g2, g3, g4, w1, w2, kc, kr, compat_al, compat_la, sameAt1, p1, p2, mkFQ_n, hxe_get', Bool.and_eq_true, List.take_length]
  rfl
noncomputable def ftV : FT
  | 76 => some (.pprim (goP ft 76))
  | 101 => some (.prim (cloP 4 64))
  | 137 => some (.prim (delP 4 64))
  | 77 => some (.go true 29 r77 c77)
  | _ => none
theorem kV_find {n : NodeM} {key : Bytes} (hn : okN n) (hl2 : n.items.length < 4000000000000000000) (hk : okB key) {K : Heap} {L : List Blk} {Q : AV → Heap → Prop} :
    KW ftV (.fn (.func 76) [] []) [.agg (nodeC n), encB key] (hx K L) Q ↔ Q (.tup [int (bsM n.items key), boolA (bsIs n.items key)]) (hx K L) := by
  refine KW_of (call_pprim (as' := [.agg (nodeC n), encB key]) (p := goP ft 76) rfl rfl ?_)
  unfold goP
  have hc : closedL [.agg (nodeC n), encB key] = true := rfl
  rw [if_pos hc, s76 n key hn hl2 hk]
  rfl
theorem kV_clo {l : List ItemM} (h0 : l ≠ []) (hb : l.length ≤ 1000) {L : List Blk} {Q : AV → Heap → Prop} : KW ftV (.fn (.func 101) [] []) [encI l] (hx Heap.empty L) Q ↔ Q (.sl (L.length + 1) 0 l.length) (hx Heap.empty (L ++ [.dead, .row false 4 (l.map itemC)])) := by
  cases l with
  | nil => exact absurd rfl h0
  | cons x xs =>
    refine k_prim (p := cloP 4 64) rfl ?_ ?_
    · unfold cloP
      have hv : vRows (hx Heap.empty L) (hx Heap.empty L).next (encI (x :: xs)) = some ((x :: xs).map itemC) := rfl
      show ((vRows (hx Heap.empty L) (hx Heap.empty L).next (encI (x :: xs))).bind _) = _
      rw [hv, Option.bind_some, if_pos ⟨by simp, by simp only [List.length_map]; omega, allI _⟩, hxe_nx, hx_hx, List.length_map]
    · rw [hxe_nx, hxe_nx]
      simp
theorem del_sl_eval {L : List Blk} {id i j len : Nat} {rows : List (List AV)} (hi : L[id]? = some (.row false 4 rows)) (hlen : len = rows.length) (hk : i < j) (hj : j ≤ len) (hb : len ≤ 2000) :
    delP 4 64 [.sl id 0 len, .sc (.int .i64 (i : Int)), .sc (.int .i64 (j : Int))] (hx Heap.empty L) = some (.sl (L.length + 1) 0 (rows.take i ++ rows.drop j).length, hx Heap.empty (L.set id .dead ++ [.dead, .row false 4 (rows.take i ++ rows.drop j)])) := by
  subst hlen
  unfold delP cutP
  have hv : vRows (hx Heap.empty L) id (.sc (.slice none 0 0)) = some [] := rfl
  simp only [hxe_get', hi, hv, Option.bind_some]
  rw [if_pos (by omega), if_pos ⟨trivial, by decide, Nat.le_refl _, by omega, by omega, by omega, rfl, by simp; omega⟩]
  simp only [hxe_nx, List.take_length, Int.toNat_natCast, List.append_nil]
  refine congrArg some (Prod.ext rfl ?_)
  simp only [hxe_set, hx_hx]
  rw [hxe_put, if_neg (by simp)]
  simp
theorem kV_del {L : List Blk} {id i j len : Nat} {rows : List (List AV)} (hi : L[id]? = some (.row false 4 rows)) (hlen : len = rows.length) (hk : i < j) (hj : j ≤ len) (hb : len ≤ 2000) {Q : AV → Heap → Prop} :
    KW ftV (.fn (.func 137) [] []) [.sl id 0 len, .sc (.int .i64 (i : Int)), .sc (.int .i64 (j : Int))] (hx Heap.empty L) Q ↔ Q (.sl (L.length + 1) 0 (rows.take i ++ rows.drop j).length) (hx Heap.empty (L.set id .dead ++ [.dead, .row false 4 (rows.take i ++ rows.drop j)])) :=
  k_prim rfl (del_sl_eval hi hlen hk hj hb) (by rw [hxe_nx, hxe_nx]; simp)
def woutM (n : NodeM) (key : Bytes) : NodeM := if bsIs n.items key then ⟨n.leaf, n.items.take (bsM n.items key) ++ n.items.drop (bsM n.items key + 1), n.kids⟩ else n
theorem sV_wout (n : NodeM) (key : Bytes) (hn : okN n) (h1 : n.items.length ≤ 1000) (hk : okB key) (H : Heap) :
    callL ftV (.fn (.func 77) [] []) [.agg (nodeC n), encB key] H = some (.tup [.agg (nodeC (woutM n key)), boolA (bsIs n.items key)], H) := by
  refine call_p (as' := [.agg (nodeC n), encB key]) rfl rfl (by simp) ?_
  unfold c77 r77 woutM
  have kf := fun K L Q => @kV_find n key hn (by omega) hk K L Q
  cases hi : bsIs n.items key with
  | false =>
    rw [hi] at kf
    simp only [↓vp, vq0, vq1, vq2, vq3, vr0, vr1, vr2, vr3, vr4, vr5, vr6, vr7, vr8, vr9, vr10, vr11, vr12, vr13, vr14, vr15, vr16, vr17, vr18, vr19, vr20, vr21, vr22, vr23, vr24, vr25, vr26, vr27, vr28, vr29, vr30, vr31, vr32, vr33, vr34, opS, fpS, okP, pack, nAl, allocA, shId, leaves, fillA, fillR, splice, Nat.reduceLT, Nat.reduceEqDiff, Nat.reduceLeDiff, Nat.reduceAdd, Nat.reduceSub, Nat.reduceMul, Int.reduceBEq, Int.reduceBNe, Int.reduceLT, Int.reduceLE, Int.reduceEq, reduceIte, reduceCtorEq, da, int, boolA, RetP_go, resT, resC, resN, retV1, retV2, retV3, retV0, frzFZ, takeM, Option.some.injEq, kf]
    try rfl
  | true =>
    rw [hi] at kf
    have hlt := bsIs_lt hi
    have h0 : n.items ≠ [] := fun e => by rw [e] at hlt; simp at hlt
    have w2 : IntKind.i64.wrap ((bsM n.items key : Int) + 1) = ((bsM n.items key + 1 : Nat) : Int) := by rw [wrap_i64 (by omega)]; omega
    have kc := fun L Q => @kV_clo n.items h0 h1 L Q
    have kd := fun L h Q => @kV_del L 3 (bsM n.items key) (bsM n.items key + 1) n.items.length (n.items.map itemC) h (by simp) (by omega) (by omega) (by omega) Q
    have hj : nodeC ⟨n.leaf, n.items.take (bsM n.items key) ++ n.items.drop (bsM n.items key + 1), n.kids⟩ = [.sc (.bool n.leaf), .lst ((n.items.map itemC).take (bsM n.items key) ++ (n.items.map itemC).drop (bsM n.items key + 1)), encK n.kids] := by
      simp only [nodeC, encI, List.map_append, List.map_take, List.map_drop]
      rfl
    have p1 : ∀ args, pureV ftV (.fn (.func 101) [] []) args = none := fun _ => rfl
    have p2 : ∀ args, pureV ftV (.fn (.func 137) [] []) args = none := fun _ => rfl
    rw [if_pos rfl, hj]
    simp only [↓vp, vq0, vq1, vq2, vq3, vr0, vr1, vr2, vr3, vr4, vr5, vr6, vr7, vr8, vr9, vr10, vr11, vr12, vr13, vr14, vr15, vr16, vr17, vr18, vr19, vr20, vr21, vr22, vr23, vr24, vr25, vr26, vr27, vr28, vr29, vr30, vr31, vr32, vr33, vr34, opS, fpS, okP, pack, nAl, allocA, shId, leaves, fillA, fillR, splice, Nat.reduceLT, Nat.reduceEqDiff, Nat.reduceLeDiff, Nat.reduceAdd, Nat.reduceSub, Nat.reduceMul, Int.reduceBEq, Int.reduceBNe, Int.reduceLT, Int.reduceLE, Int.reduceEq, reduceIte, reduceCtorEq, da, int, boolA, kf]
    simp only [↓vp, vq0, vq1, vq2, vq3, vr0, vr1, vr2, vr3, vr4, vr5, vr6, vr7, vr8, vr9, vr10, vr11, vr12, vr13, vr14, vr15, vr16, vr17, vr18, vr19, vr20, vr21, vr22, vr23, vr24, vr25, vr26, vr27, vr28, vr29, vr30, vr31, vr32, vr33, vr34, opS, fpS, okP, pack, nAl, allocA, shId, leaves, fillA, fillR, splice, Nat.reduceLT, Nat.reduceEqDiff, Nat.reduceLeDiff, Nat.reduceAdd, Nat.reduceSub, Nat.reduceMul, Int.reduceBEq, Int.reduceBNe, Int.reduceLT, Int.reduceLE, Int.reduceEq, reduceIte, reduceCtorEq, da, int, boolA, RetP_go, resT, resC, resN, retV1, retV2, retV3, retV0, frzFZ, takeM, Option.some.injEq, nodeC, w2, kc, kd, compat_al, compat_la, sameAt1, p1, p2, mkFQ_n, hxe_get', Bool.and_eq_true, List.take_length]
/-- Without as a primitive. -/
noncomputable def woutP : List AV → Option AV := goP ftV 77
theorem woutP_eq {n : NodeM} {key : Bytes} (hn : okN n) (h1 : n.items.length ≤ 1000) (hk : okB key) : woutP [.agg (nodeC n), encB key] = some (.tup [.agg (nodeC (woutM n key)), boolA (bsIs n.items key)]) := by
  unfold woutP goP
  have hc : closedL [.agg (nodeC n), encB key] = true := rfl
  rw [if_pos hc, sV_wout n key hn h1 hk]
  rfl
/-- The table of what stands on node.With, node.Without. -/
noncomputable def ftX : FT := fun k => if k = 31 then some (.pprim withP) else if k = 77 then some (.pprim woutP) else ftL k
theorem ft_sub : Sub ft ftX := fun k d h => by
  unfold ftX
  rw [if_neg (fun e => by subst e; cases h), if_neg (fun e => by subst e; cases h)]
  unfold ftL
  split <;> first
    | (cases h; done)
    | exact h
theorem kX_with {n : NodeM} {it : ItemM} (hn : okN n) (hs : n.items.length ≤ 1000) (hit : okIt it) {K : Heap} {L : List Blk} {Q : AV → Heap → Prop} :
    KW ftX (.fn (.func 31) [] []) [.agg (nodeC n), .agg (itemC it)] (hx K L) Q ↔ Q (.agg (nodeC (withM n it))) (hx K L) :=
  KW_of (call_pprim (as' := [.agg (nodeC n), .agg (itemC it)]) (p := withP) (by unfold ftX; rw [if_pos rfl]) rfl (withP_eq hn hs hit))
end Go.VI

set_option linter.unusedVariables false
set_option linter.unusedSimpArgs false
namespace Go.VI
/-- All cells of the first world. -/
def frzW (W : World) : Fz := fun b o => W.cell? ⟨b, o, none⟩
def CVF (F : Fz) (xs : List AV) (cs : List Value) : Prop := xs.length = cs.length ∧ ∀ i c, xs[i]? = some c → c.one = true ∧ VF F c (cs.getD i undef)
def RD (P : Program) (W : World) (t : TypeId) (E : List AV → Prop) : Prop :=
  ∀ (H : Type) (enc : TypeId × Value → H) (base : Nat) (spare : Nat → Bool) (held : Bool) (fuel : Nat) (cs : List Value) (x : DataW H × List MemPlace),
    DataW.trod enc P W base spare held fuel t cs = some x → (∀ n ∈ x.1.weights P t, n ≤ reachBytes) → ∃ xs, E xs ∧ CVF (frzW W) xs cs
theorem CVF.one {F : Fz} {a : AV} {v : Value} (h1 : a.one = true) (h : VF F a v) : CVF F [a] [v] := ⟨rfl, fun i c hc => by
  cases i with
  | zero => cases hc; exact ⟨h1, h⟩
  | succ i => simp at hc⟩
theorem CVF.cons {F : Fz} {a : AV} {v : Value} {l : List AV} {vs : List Value} (h : CVF F [a] [v]) (ht : CVF F l vs) : CVF F (a :: l) (v :: vs) := ⟨by simp [ht.1], fun i c hc => by
  cases i with
  | zero => exact h.2 0 c hc
  | succ i => exact ht.2 i c hc⟩
theorem rd_bool {P : Program} {W : World} {t : TypeId} (ht : P.underlying t = some .bool) : RD P W t fun xs => ∃ b, xs = [.sc (.bool b)] := fun H enc base spare held fuel cs x h _ => by
  obtain ⟨b, rfl, _⟩ := DataW.trod_bool ht h
  exact ⟨_, ⟨b, rfl⟩, .one rfl (.sc rfl)⟩
theorem rd_int {P : Program} {W : World} {t : TypeId} {k : IntKind} (ht : P.underlying t = some (.int k)) : RD P W t fun xs => ∃ n, xs = [.sc (.int k n)] ∧ (Lit.int k n).wf = true := fun H enc base spare held fuel cs x h _ => by
  obtain ⟨n, rfl, _, hw⟩ := DataW.trod_int ht h
  exact ⟨_, ⟨n, rfl, hw⟩, .one rfl (.sc rfl)⟩
theorem cell_flat {W : World} {a : Addr} {v : Value} (h : W.cell? a = some v) : a.spot = none := by
  cases hs : a.spot with
  | none => rfl
  | some s =>
    simp only [World.cell?] at h
    split at h
    · simp [hs] at h
    · cases h
theorem add_flat (b o i : Nat) : (Addr.mk b o none).add i = ⟨b, o + i, none⟩ := by
  unfold Addr.add
  split
  · rename_i h; subst h; rfl
  · rfl
theorem weights_all {H : Type} {P : Program} {e : TypeId} : ∀ {l : List (DataW H)} {d : DataW H}, d ∈ l → ∀ n ∈ d.weights P e, n ∈ DataW.weightsAll P e l
  | x :: l, d, hd, n, hn => by
    simp only [DataW.weightsAll, List.mem_append]
    rcases List.mem_cons.1 hd with rfl | hd
    · exact .inl hn
    · exact .inr (weights_all hd n hn)
theorem rd_slice {P : Program} {W : World} {t e : TypeId} {E : List AV → Prop} {sz B : Nat} (ht : P.underlying t = some (.slice e)) (hc : P.cellsOf e = sz) (h0 : 0 < sz) (hB : P.bytesOf e = B) (he : RD P W e E) :
    RD P W t fun xs => ∃ rows, xs = [.lst rows] ∧ (∀ r ∈ rows, E r ∧ r.length = sz) ∧ rows.length * B ≤ reachBytes := fun H enc base spare held fuel cs x h hw => by
  rcases DataW.trod_slice ht h with ⟨rfl, rfl⟩ | ⟨a, len, cap, elems, rest, n, rfl, rfl, rfl, hb, hl, hm, hlen, hel, _, _⟩
  · exact ⟨_, ⟨[], rfl, by simp, by simp⟩, .one rfl (.lst (sz := 0) (b := 0) (o := 0) (fun _ _ => undef) (Nat.le_refl _) (fun h => absurd rfl h) (by simp) (by simp) (by simp) (by simp))⟩
  · rw [hc] at hel
    have hw1 : (len + rest.length) * B ≤ reachBytes := by
      have := hw ((elems.length + rest.length) * P.bytesOf e) (by simp [DataW.weights, ht])
      rwa [hB, hlen] at this
    have each : ∀ i : Nat, ∃ r : List AV, i < len → ∃ cs, W.cells? base (a.add (i * sz)) sz = some cs ∧ E r ∧ CVF (frzW W) r cs := fun i => by
      by_cases hi : i < len
      · have hy := hel i hi
        have hi' : i < elems.length := by omega
        rw [List.getElem?_eq_getElem hi', Option.bind_eq_some_iff] at hy
        obtain ⟨cs, hcs, hy⟩ := hy
        obtain ⟨r, hr, hv⟩ := he H enc base spare held n cs _ hy fun k hk => hw k (by
          simp only [DataW.weights, ht, List.mem_cons, List.mem_append]
          exact .inr (.inl (weights_all (List.mem_map.2 ⟨elems[i], List.getElem_mem hi', rfl⟩) k hk)))
        exact ⟨r, fun _ => ⟨cs, hcs, hr, hv⟩⟩
      · exact ⟨[], fun h => absurd h hi⟩
    obtain ⟨f, hf⟩ := Classical.skolem.1 each
    have hrows : ∀ i r, ((List.range len).map f)[i]? = some r → i < len ∧ r = f i := fun i r hr => by
      rw [List.getElem?_map, Option.map_eq_some_iff] at hr
      obtain ⟨j, hj, rfl⟩ := hr
      obtain ⟨h1, h2⟩ := List.getElem?_eq_some_iff.1 hj
      rw [List.getElem_range] at h2
      rw [List.length_range] at h1
      exact ⟨h1, by rw [h2]⟩
    have hlr : ∀ i, i < len → (f i).length = sz := fun i hi => by
      obtain ⟨cs, h1, _, h2⟩ := hf i hi
      rw [h2.1, (World.cells?_some h1).2.1]
    have cell : ∀ i j, i < len → j < sz → ∃ cs, W.cells? base (a.add (i * sz)) sz = some cs ∧ W.cell? ((a.add (i * sz)).add j) = cs[j]? ∧ ∃ v, cs[j]? = some v := fun i j hi hj => by
      obtain ⟨cs, h1, _, _⟩ := hf i hi
      obtain ⟨_, h2, h3⟩ := World.cells?_some h1
      exact ⟨cs, h1, h3 j hj, _, List.getElem?_eq_getElem (by omega)⟩
    have hflat : 0 < len → a = ⟨a.block, a.off, none⟩ := fun h => by
      obtain ⟨cs, _, h1, v, h2⟩ := cell 0 0 h h0
      rw [h2] at h1
      have h3 : (a.add (0 * sz)).add 0 = a := by rw [Nat.zero_mul]; simp [Addr.add]
      rw [h3] at h1
      have := cell_flat h1
      cases a
      simp only at this
      subst this
      rfl
    have hF : ∀ i j c, i < len → (f i)[j]? = some c → c.one = true ∧ ∃ v, frzW W a.block (a.off + i * sz + j) = some v ∧ VF (frzW W) c v := fun i j c hi hc => by
      have hj : j < sz := by rw [← hlr i hi]; exact (List.getElem?_eq_some_iff.1 hc).1
      obtain ⟨cs, h1, h2, v, h3⟩ := cell i j hi hj
      obtain ⟨cs', h1', _, h4⟩ := hf i hi
      rw [h1] at h1'
      cases h1'
      obtain ⟨h5, h6⟩ := h4.2 j c hc
      refine ⟨h5, v, ?_, ?_⟩
      · rw [hflat (by omega), add_flat, add_flat, h3] at h2
        exact h2
      · have : cs.getD j undef = v := by rw [List.getD_eq_getElem?_getD, h3]; rfl
        rwa [this] at h6
    refine ⟨_, ⟨(List.range len).map f, rfl, fun r hr => ?_, ?_⟩, .one rfl ?_⟩
    · obtain ⟨i, hi, rfl⟩ := List.mem_map.1 hr
      have hi := List.mem_range.1 hi
      obtain ⟨_, _, h1, _⟩ := hf i hi
      exact ⟨h1, hlr i hi⟩
    · simp only [List.length_map, List.length_range]
      exact Nat.le_trans (Nat.mul_le_mul_right _ (by omega)) hw1
    · have hll : ((List.range len).map f).length = len := by simp
      have := VF.lst (F := frzW W) (rows := (List.range len).map f) (A := some a) (cap := cap) (sz := sz) (b := a.block) (o := a.off) (fun i j => (frzW W a.block (a.off + i * sz + j)).getD undef)
        (by simpa using hl) (fun h => by rw [← hflat (by
          cases len with
          | zero => simp at h
          | succ => omega)]) (fun i r hr => by obtain ⟨h1, rfl⟩ := hrows i r hr; exact hlr i h1)
        (fun i r j c hr hc => by obtain ⟨h1, rfl⟩ := hrows i r hr; exact (hF i j c h1 hc).1)
        (fun i r j c hr hc => by
          obtain ⟨h1, rfl⟩ := hrows i r hr
          obtain ⟨_, v, h2, _⟩ := hF i j c h1 hc
          rw [h2]; rfl)
        (fun i r j c hr hc => by
          obtain ⟨h1, rfl⟩ := hrows i r hr
          obtain ⟨_, v, h2, h3⟩ := hF i j c h1 hc
          rw [h2]; exact h3)
      rwa [hll] at this
/-- Parts, one behind the other. -/
def SE : List (List AV → Prop) → List AV → Prop
  | [], xs => xs = []
  | E :: Es, xs => ∃ a b, xs = a ++ b ∧ E a ∧ SE Es b
def consec (P : Program) : List Field → Nat → Nat → Bool
  | [], off, en => off == en
  | f :: fs, off, en => f.offset == off && consec P fs (off + P.cellsOf f.type) en
theorem consec_le {P : Program} : ∀ {fs : List Field} {off en : Nat}, consec P fs off en = true → off ≤ en
  | [], off, en, h => by simp [consec] at h; omega
  | f :: fs, off, en, h => by
    simp only [consec, Bool.and_eq_true] at h
    have := consec_le h.2
    omega
def RDs (P : Program) (W : World) : List Field → List (List AV → Prop) → Prop
  | [], [] => True
  | f :: fs, E :: Es => RD P W f.type E ∧ RDs P W fs Es
  | _, _ => False
theorem rd_fields {P : Program} {W : World} {H : Type} {enc : TypeId × Value → H} {base : Nat} {spare : Nat → Bool} {held : Bool} {n : Nat} {cs : List Value} : ∀ (fs : List Field) (Es : List (List AV → Prop)) (off : Nat) (xs : List (DataW H × List MemPlace)),
    RDs P W fs Es → consec P fs off cs.length = true → xs.length = fs.length → (∀ (i : Nat) (f : Field), fs[i]? = some f → DataW.trod enc P W base spare held n f.type ((cs.drop f.offset).take (P.cellsOf f.type)) = xs[i]?) →
    (∀ k ∈ DataW.weightsEach P (fs.map (·.type)) (xs.map (·.1)), k ≤ reachBytes) → ∃ xs, SE Es xs ∧ CVF (frzW W) xs (cs.drop off)
  | [], [], off, xs, _, hc, _, _, _ => by
    simp only [consec, beq_iff_eq] at hc
    refine ⟨[], rfl, by simp [hc], fun i c h => by simp at h⟩
  | [], _ :: _, _, _, h, _, _, _, _ => h.elim
  | _ :: _, [], _, _, h, _, _, _, _ => h.elim
  | f :: fs, E :: Es, off, [], _, _, hl, _, _ => by simp at hl
  | f :: fs, E :: Es, off, x :: xs, hr, hc, hl, ht, hw => by
    simp only [consec, Bool.and_eq_true, beq_iff_eq] at hc
    obtain ⟨ho, hc⟩ := hc
    have hle := consec_le hc
    simp only [List.map_cons, DataW.weightsEach, List.mem_append] at hw
    have h0 := ht 0 f rfl
    rw [ho] at h0
    obtain ⟨a, ha, hva⟩ := hr.1 H enc base spare held n _ x h0 fun k hk => hw k (.inl hk)
    obtain ⟨b, hb, hvb⟩ := rd_fields fs Es (off + P.cellsOf f.type) xs hr.2 hc (by simpa using hl) (fun i g hg => ht (i + 1) g hg) fun k hk => hw k (.inr hk)
    have hla : a.length = P.cellsOf f.type := by
      rw [hva.1]
      simp
      omega
    refine ⟨a ++ b, ⟨a, b, rfl, ha, hb⟩, ?_, fun i c h => ?_⟩
    · rw [List.length_append, hvb.1, hla]
      simp
      omega
    · by_cases hi : i < a.length
      · rw [List.getElem?_append_left hi] at h
        obtain ⟨h1, h2⟩ := hva.2 i c h
        refine ⟨h1, ?_⟩
        have : ((cs.drop off).take (P.cellsOf f.type)).getD i undef = (cs.drop off).getD i undef := by
          rw [List.getD_eq_getElem?_getD, List.getD_eq_getElem?_getD, List.getElem?_take_of_lt (by omega)]
        rwa [this] at h2
      · rw [List.getElem?_append_right (by omega)] at h
        obtain ⟨h1, h2⟩ := hvb.2 _ c h
        refine ⟨h1, ?_⟩
        have : (cs.drop (off + P.cellsOf f.type)).getD (i - a.length) undef = (cs.drop off).getD i undef := by
          rw [List.getD_eq_getElem?_getD, List.getD_eq_getElem?_getD, List.getElem?_drop, List.getElem?_drop]
          congr 2
          omega
        rwa [this] at h2
theorem rd_struct {P : Program} {W : World} {t : TypeId} {fs : Array Field} {Es : List (List AV → Prop)} (ht : P.underlying t = some (.struct fs)) (hc : consec P fs.toList 0 (P.cellsOf t) = true) (hr : RDs P W fs.toList Es) :
    RD P W t (SE Es) := fun H enc base spare held fuel cs x h hw => by
  obtain ⟨xs, n, rfl, rfl, hl, hx, hf⟩ := DataW.trod_struct ht h
  have := rd_fields (cs := cs) fs.toList Es 0 xs hr (by rw [hl]; exact hc) (by simpa using hx) (fun i f hi => hf i f (by simpa using hi)) (fun k hk => hw k (by simpa [DataW.weights, ht] using hk))
  simpa using this
end Go.VI

set_option linter.unusedVariables false
set_option linter.unusedSimpArgs false
namespace Go.VI
open Go.RowKit
def m0 : Mp := fun _ => none
theorem inv0 {P : Program} (W : World) : Inv P m0 (frzW W) Heap.empty W :=
  ⟨fun b o v h => h, fun id mb h => absurd h (by simp [m0]), fun id mb B h => absurd h (by simp [m0]), fun id id' mb mb' h => absurd h (by simp [m0])⟩
theorem below_of {F' : Fz} {m' : Mp} {W W' : World} (h : Ext m0 (frzW W) W m' F' W') : Below W.heap.size W W' :=
  ⟨h.os, h.tape, h.out, h.sz, fun k hk => h.blk k hk fun id mb hm => absurd hm (by simp [m0])⟩
theorem law_calls {P : Program} (hP : P.follows .mixedOrders = true) {ft : FT} (hft : FTOk P ft) {k : FuncId} {args : List AV} {vs : Array Value} {W : World} {H' : Heap} (hgo : ∃ p n rs body, ft k = some (.go p n rs body))
    (h : callL ft (.fn (.func k) [] []) args Heap.empty = some (.sc (.bool true), H')) (hv : VRs m0 (frzW W) args vs) :
    Calls P k vs W fun e W' => e = .returned (.bool true) ∧ Below W.heap.size W W' := by
  obtain ⟨n, hn⟩ := callL_some.1 h
  have hn' : callF ft (exec ft n) k args Heap.empty = some (.sc (.bool true), H') := by simpa [callV] using hn
  refine (callF_sound hP hft n hn' (inv0 W) hv hgo).mono fun e W' he => ?_
  obtain ⟨u, m', F', rfl, hu, _, hx, _⟩ := he
  refine ⟨?_, below_of hx⟩
  cases hu with
  | fz hu => cases hu; rfl
theorem go_ok {P : Program} {k : FuncId} {n : Nat} {rs : List ARes} {body : ACode} (h : compF P k = some (n, rs, body)) (hn : (P.funcs[k]?).all (fun fn => !(fn.name == "runtime.NumGoroutine")) = true) :
    ∃ fn c, P.funcs[k]? = some fn ∧ (fn.name == "runtime.NumGoroutine") = false ∧ fn.body = some c ∧ compC P c = some body ∧ fn.ntmps = n ∧ fn.results.toList.mapM (compRes P) = some rs := by
  unfold compF at h
  simp only [Option.bind_eq_some_iff, Option.map_eq_some_iff, Prod.mk.injEq] at h
  obtain ⟨fn, h1, b, h2, c, h3, rs', h4, rfl, rfl, rfl⟩ := h
  rw [h1] at hn
  exact ⟨fn, b, h1, by simpa using hn, h2, h3, rfl, h4⟩
end Go.VI

set_option linter.unusedVariables false
set_option maxRecDepth 100000
namespace Go.VI
theorem fc20 : compF Go.Proofs.Try.prog 20 = some (40, r20, c20) := by rfl
theorem fn20 : (Go.Proofs.Try.prog.funcs[20]?).all (fun fn => !(fn.name == "runtime.NumGoroutine")) = true := by kernel_rfl
theorem fc21 : compF Go.Proofs.Try.prog 21 = some (13, r21, c21) := by rfl
theorem fn21 : (Go.Proofs.Try.prog.funcs[21]?).all (fun fn => !(fn.name == "runtime.NumGoroutine")) = true := by kernel_rfl
theorem fc23 : compF Go.Proofs.Try.prog 23 = some (10, r23, c23) := by rfl
theorem fn23 : (Go.Proofs.Try.prog.funcs[23]?).all (fun fn => !(fn.name == "runtime.NumGoroutine")) = true := by kernel_rfl
theorem fc26 : compF Go.Proofs.Try.prog 26 = some (11, r26, c26) := by rfl
theorem fn26 : (Go.Proofs.Try.prog.funcs[26]?).all (fun fn => !(fn.name == "runtime.NumGoroutine")) = true := by kernel_rfl
theorem fc27 : compF Go.Proofs.Try.prog 27 = some (33, r27, c27) := by rfl
theorem fn27 : (Go.Proofs.Try.prog.funcs[27]?).all (fun fn => !(fn.name == "runtime.NumGoroutine")) = true := by kernel_rfl
theorem fc28 : compF Go.Proofs.Try.prog 28 = some (26, r28, c28) := by rfl
theorem fn28 : (Go.Proofs.Try.prog.funcs[28]?).all (fun fn => !(fn.name == "runtime.NumGoroutine")) = true := by kernel_rfl
theorem fc29 : compF Go.Proofs.Try.prog 29 = some (124, r29, c29) := by rfl
theorem fn29 : (Go.Proofs.Try.prog.funcs[29]?).all (fun fn => !(fn.name == "runtime.NumGoroutine")) = true := by kernel_rfl
theorem fc30 : compF Go.Proofs.Try.prog 30 = some (65, r30, c30) := by rfl
theorem fn30 : (Go.Proofs.Try.prog.funcs[30]?).all (fun fn => !(fn.name == "runtime.NumGoroutine")) = true := by kernel_rfl
theorem fc32 : compF Go.Proofs.Try.prog 32 = some (37, r32, c32) := by rfl
theorem fn32 : (Go.Proofs.Try.prog.funcs[32]?).all (fun fn => !(fn.name == "runtime.NumGoroutine")) = true := by kernel_rfl
theorem fc33 : compF Go.Proofs.Try.prog 33 = some (21, r33, c33) := by rfl
theorem fn33 : (Go.Proofs.Try.prog.funcs[33]?).all (fun fn => !(fn.name == "runtime.NumGoroutine")) = true := by kernel_rfl
theorem fc34 : compF Go.Proofs.Try.prog 34 = some (11, r34, c34) := by rfl
theorem fn34 : (Go.Proofs.Try.prog.funcs[34]?).all (fun fn => !(fn.name == "runtime.NumGoroutine")) = true := by kernel_rfl
theorem fc75 : compF Go.Proofs.Try.prog 75 = some (10, r75, c75) := by rfl
theorem fn75 : (Go.Proofs.Try.prog.funcs[75]?).all (fun fn => !(fn.name == "runtime.NumGoroutine")) = true := by kernel_rfl
theorem fc76 : compF Go.Proofs.Try.prog 76 = some (12, r76, c76) := by rfl
theorem fn76 : (Go.Proofs.Try.prog.funcs[76]?).all (fun fn => !(fn.name == "runtime.NumGoroutine")) = true := by kernel_rfl
theorem fc78 : compF Go.Proofs.Try.prog 78 = some (27, r78, c78) := by rfl
theorem fn78 : (Go.Proofs.Try.prog.funcs[78]?).all (fun fn => !(fn.name == "runtime.NumGoroutine")) = true := by kernel_rfl
theorem fc79 : compF Go.Proofs.Try.prog 79 = some (29, r79, c79) := by rfl
theorem fn79 : (Go.Proofs.Try.prog.funcs[79]?).all (fun fn => !(fn.name == "runtime.NumGoroutine")) = true := by kernel_rfl
theorem fc80 : compF Go.Proofs.Try.prog 80 = some (21, r80, c80) := by rfl
theorem fn80 : (Go.Proofs.Try.prog.funcs[80]?).all (fun fn => !(fn.name == "runtime.NumGoroutine")) = true := by kernel_rfl
theorem fc81 : compF Go.Proofs.Try.prog 81 = some (12, r81, c81) := by rfl
theorem fn81 : (Go.Proofs.Try.prog.funcs[81]?).all (fun fn => !(fn.name == "runtime.NumGoroutine")) = true := by kernel_rfl
theorem fc82 : compF Go.Proofs.Try.prog 82 = some (46, r82, c82) := by rfl
theorem fn82 : (Go.Proofs.Try.prog.funcs[82]?).all (fun fn => !(fn.name == "runtime.NumGoroutine")) = true := by kernel_rfl
theorem fc83 : compF Go.Proofs.Try.prog 83 = some (43, r83, c83) := by rfl
theorem fn83 : (Go.Proofs.Try.prog.funcs[83]?).all (fun fn => !(fn.name == "runtime.NumGoroutine")) = true := by kernel_rfl
theorem fc84 : compF Go.Proofs.Try.prog 84 = some (49, r84, c84) := by rfl
theorem fn84 : (Go.Proofs.Try.prog.funcs[84]?).all (fun fn => !(fn.name == "runtime.NumGoroutine")) = true := by kernel_rfl
theorem fc85 : compF Go.Proofs.Try.prog 85 = some (38, r85, c85) := by rfl
theorem fn85 : (Go.Proofs.Try.prog.funcs[85]?).all (fun fn => !(fn.name == "runtime.NumGoroutine")) = true := by kernel_rfl
theorem fc86 : compF Go.Proofs.Try.prog 86 = some (13, r86, c86) := by rfl
theorem fn86 : (Go.Proofs.Try.prog.funcs[86]?).all (fun fn => !(fn.name == "runtime.NumGoroutine")) = true := by kernel_rfl
theorem fc89 : compF Go.Proofs.Try.prog 89 = some (46, r89, c89) := by rfl
theorem fn89 : (Go.Proofs.Try.prog.funcs[89]?).all (fun fn => !(fn.name == "runtime.NumGoroutine")) = true := by kernel_rfl
theorem fc90 : compF Go.Proofs.Try.prog 90 = some (9, r90, c90) := by rfl
theorem fn90 : (Go.Proofs.Try.prog.funcs[90]?).all (fun fn => !(fn.name == "runtime.NumGoroutine")) = true := by kernel_rfl
theorem fc93 : compF Go.Proofs.Try.prog 93 = some (36, r93, c93) := by rfl
theorem fn93 : (Go.Proofs.Try.prog.funcs[93]?).all (fun fn => !(fn.name == "runtime.NumGoroutine")) = true := by kernel_rfl
theorem fc94 : compF Go.Proofs.Try.prog 94 = some (36, r94, c94) := by rfl
theorem fn94 : (Go.Proofs.Try.prog.funcs[94]?).all (fun fn => !(fn.name == "runtime.NumGoroutine")) = true := by kernel_rfl
theorem fc95 : compF Go.Proofs.Try.prog 95 = some (17, r95, c95) := by rfl
theorem fn95 : (Go.Proofs.Try.prog.funcs[95]?).all (fun fn => !(fn.name == "runtime.NumGoroutine")) = true := by kernel_rfl
theorem fc96 : compF Go.Proofs.Try.prog 96 = some (32, r96, c96) := by rfl
theorem fn96 : (Go.Proofs.Try.prog.funcs[96]?).all (fun fn => !(fn.name == "runtime.NumGoroutine")) = true := by kernel_rfl
theorem fc97 : compF Go.Proofs.Try.prog 97 = some (31, r97, c97) := by rfl
theorem fn97 : (Go.Proofs.Try.prog.funcs[97]?).all (fun fn => !(fn.name == "runtime.NumGoroutine")) = true := by kernel_rfl
theorem fc98 : compF Go.Proofs.Try.prog 98 = some (32, r98, c98) := by rfl
theorem fn98 : (Go.Proofs.Try.prog.funcs[98]?).all (fun fn => !(fn.name == "runtime.NumGoroutine")) = true := by kernel_rfl
theorem fc99 : compF Go.Proofs.Try.prog 99 = some (5, r99, c99) := by rfl
theorem fn99 : (Go.Proofs.Try.prog.funcs[99]?).all (fun fn => !(fn.name == "runtime.NumGoroutine")) = true := by kernel_rfl
theorem fc100 : compF Go.Proofs.Try.prog 100 = some (5, r100, c100) := by rfl
theorem fn100 : (Go.Proofs.Try.prog.funcs[100]?).all (fun fn => !(fn.name == "runtime.NumGoroutine")) = true := by kernel_rfl
theorem fc104 : compF Go.Proofs.Try.prog 104 = some (33, r104, c104) := by rfl
theorem fn104 : (Go.Proofs.Try.prog.funcs[104]?).all (fun fn => !(fn.name == "runtime.NumGoroutine")) = true := by kernel_rfl
theorem fc134 : compF Go.Proofs.Try.prog 134 = some (49, r134, c134) := by rfl
theorem fn134 : (Go.Proofs.Try.prog.funcs[134]?).all (fun fn => !(fn.name == "runtime.NumGoroutine")) = true := by kernel_rfl
theorem fc135 : compF Go.Proofs.Try.prog 135 = some (9, r135, c135) := by rfl
theorem fn135 : (Go.Proofs.Try.prog.funcs[135]?).all (fun fn => !(fn.name == "runtime.NumGoroutine")) = true := by kernel_rfl
theorem fc136 : compF Go.Proofs.Try.prog 136 = some (8, r136, c136) := by rfl
theorem fn136 : (Go.Proofs.Try.prog.funcs[136]?).all (fun fn => !(fn.name == "runtime.NumGoroutine")) = true := by kernel_rfl
theorem fc138 : compF Go.Proofs.Try.prog 138 = some (61, r138, c138) := by rfl
theorem fn138 : (Go.Proofs.Try.prog.funcs[138]?).all (fun fn => !(fn.name == "runtime.NumGoroutine")) = true := by kernel_rfl
theorem fc139 : compF Go.Proofs.Try.prog 139 = some (18, r139, c139) := by rfl
theorem fn139 : (Go.Proofs.Try.prog.funcs[139]?).all (fun fn => !(fn.name == "runtime.NumGoroutine")) = true := by kernel_rfl
theorem fc140 : compF Go.Proofs.Try.prog 140 = some (9, r140, c140) := by rfl
theorem fn140 : (Go.Proofs.Try.prog.funcs[140]?).all (fun fn => !(fn.name == "runtime.NumGoroutine")) = true := by kernel_rfl
theorem fc141 : compF Go.Proofs.Try.prog 141 = some (21, r141, c141) := by rfl
theorem fn141 : (Go.Proofs.Try.prog.funcs[141]?).all (fun fn => !(fn.name == "runtime.NumGoroutine")) = true := by kernel_rfl
theorem fc142 : compF Go.Proofs.Try.prog 142 = some (38, r142, c142) := by rfl
theorem fn142 : (Go.Proofs.Try.prog.funcs[142]?).all (fun fn => !(fn.name == "runtime.NumGoroutine")) = true := by kernel_rfl
theorem fc143 : compF Go.Proofs.Try.prog 143 = some (27, r143, c143) := by rfl
theorem fn143 : (Go.Proofs.Try.prog.funcs[143]?).all (fun fn => !(fn.name == "runtime.NumGoroutine")) = true := by kernel_rfl
theorem fc144 : compF Go.Proofs.Try.prog 144 = some (14, r144, c144) := by rfl
theorem fn144 : (Go.Proofs.Try.prog.funcs[144]?).all (fun fn => !(fn.name == "runtime.NumGoroutine")) = true := by kernel_rfl
theorem fc145 : compF Go.Proofs.Try.prog 145 = some (5, r145, c145) := by rfl
theorem fn145 : (Go.Proofs.Try.prog.funcs[145]?).all (fun fn => !(fn.name == "runtime.NumGoroutine")) = true := by kernel_rfl
theorem fc146 : compF Go.Proofs.Try.prog 146 = some (6, r146, c146) := by rfl
theorem fn146 : (Go.Proofs.Try.prog.funcs[146]?).all (fun fn => !(fn.name == "runtime.NumGoroutine")) = true := by kernel_rfl
theorem fc147 : compF Go.Proofs.Try.prog 147 = some (27, r147, c147) := by rfl
theorem fn147 : (Go.Proofs.Try.prog.funcs[147]?).all (fun fn => !(fn.name == "runtime.NumGoroutine")) = true := by kernel_rfl
theorem fc148 : compF Go.Proofs.Try.prog 148 = some (27, r148, c148) := by rfl
theorem fn148 : (Go.Proofs.Try.prog.funcs[148]?).all (fun fn => !(fn.name == "runtime.NumGoroutine")) = true := by kernel_rfl
theorem fc149 : compF Go.Proofs.Try.prog 149 = some (19, r149, c149) := by rfl
theorem fn149 : (Go.Proofs.Try.prog.funcs[149]?).all (fun fn => !(fn.name == "runtime.NumGoroutine")) = true := by kernel_rfl
theorem fc156 : compF Go.Proofs.Try.prog 156 = some (25, r156, c156) := by rfl
theorem fn156 : (Go.Proofs.Try.prog.funcs[156]?).all (fun fn => !(fn.name == "runtime.NumGoroutine")) = true := by kernel_rfl
theorem fc157 : compF Go.Proofs.Try.prog 157 = some (5, r157, c157) := by rfl
theorem fn157 : (Go.Proofs.Try.prog.funcs[157]?).all (fun fn => !(fn.name == "runtime.NumGoroutine")) = true := by kernel_rfl
theorem fc169 : compF Go.Proofs.Try.prog 169 = some (8, r169, c169) := by rfl
theorem fn169 : (Go.Proofs.Try.prog.funcs[169]?).all (fun fn => !(fn.name == "runtime.NumGoroutine")) = true := by kernel_rfl
theorem fc170 : compF Go.Proofs.Try.prog 170 = some (6, r170, c170) := by rfl
theorem fn170 : (Go.Proofs.Try.prog.funcs[170]?).all (fun fn => !(fn.name == "runtime.NumGoroutine")) = true := by kernel_rfl
theorem fc171 : compF Go.Proofs.Try.prog 171 = some (8, r171, c171) := by rfl
theorem fn171 : (Go.Proofs.Try.prog.funcs[171]?).all (fun fn => !(fn.name == "runtime.NumGoroutine")) = true := by kernel_rfl
theorem fc172 : compF Go.Proofs.Try.prog 172 = some (44, r172, c172) := by rfl
theorem fn172 : (Go.Proofs.Try.prog.funcs[172]?).all (fun fn => !(fn.name == "runtime.NumGoroutine")) = true := by kernel_rfl
theorem fc173 : compF Go.Proofs.Try.prog 173 = some (9, r173, c173) := by rfl
theorem fn173 : (Go.Proofs.Try.prog.funcs[173]?).all (fun fn => !(fn.name == "runtime.NumGoroutine")) = true := by kernel_rfl
theorem fc174 : compF Go.Proofs.Try.prog 174 = some (12, r174, c174) := by rfl
theorem fn174 : (Go.Proofs.Try.prog.funcs[174]?).all (fun fn => !(fn.name == "runtime.NumGoroutine")) = true := by kernel_rfl
theorem fc175 : compF Go.Proofs.Try.prog 175 = some (6, r175, c175) := by rfl
theorem fn175 : (Go.Proofs.Try.prog.funcs[175]?).all (fun fn => !(fn.name == "runtime.NumGoroutine")) = true := by kernel_rfl
theorem fc176 : compF Go.Proofs.Try.prog 176 = some (14, r176, c176) := by rfl
theorem fn176 : (Go.Proofs.Try.prog.funcs[176]?).all (fun fn => !(fn.name == "runtime.NumGoroutine")) = true := by kernel_rfl
theorem fc179 : compF Go.Proofs.Try.prog 179 = some (12, r179, c179) := by rfl
theorem fn179 : (Go.Proofs.Try.prog.funcs[179]?).all (fun fn => !(fn.name == "runtime.NumGoroutine")) = true := by kernel_rfl
theorem fc184 : compF Go.Proofs.Try.prog 184 = some (28, r184, c184) := by rfl
theorem fn184 : (Go.Proofs.Try.prog.funcs[184]?).all (fun fn => !(fn.name == "runtime.NumGoroutine")) = true := by kernel_rfl
theorem fc185 : compF Go.Proofs.Try.prog 185 = some (11, r185, c185) := by rfl
theorem fn185 : (Go.Proofs.Try.prog.funcs[185]?).all (fun fn => !(fn.name == "runtime.NumGoroutine")) = true := by kernel_rfl
theorem fc186 : compF Go.Proofs.Try.prog 186 = some (6, r186, c186) := by rfl
theorem fn186 : (Go.Proofs.Try.prog.funcs[186]?).all (fun fn => !(fn.name == "runtime.NumGoroutine")) = true := by kernel_rfl
theorem fc187 : compF Go.Proofs.Try.prog 187 = some (19, r187, c187) := by rfl
theorem fn187 : (Go.Proofs.Try.prog.funcs[187]?).all (fun fn => !(fn.name == "runtime.NumGoroutine")) = true := by kernel_rfl
theorem fc4 : compF Go.Proofs.Try.prog 4 = some (78, r4, c4) := by rfl
theorem fn4 : (Go.Proofs.Try.prog.funcs[4]?).all (fun fn => !(fn.name == "runtime.NumGoroutine")) = true := by kernel_rfl
theorem fc19 : compF Go.Proofs.Try.prog 19 = some (152, r19, c19) := by rfl
theorem fn19 : (Go.Proofs.Try.prog.funcs[19]?).all (fun fn => !(fn.name == "runtime.NumGoroutine")) = true := by kernel_rfl
theorem fc31 : compF Go.Proofs.Try.prog 31 = some (34, r31, c31) := by rfl
theorem fn31 : (Go.Proofs.Try.prog.funcs[31]?).all (fun fn => !(fn.name == "runtime.NumGoroutine")) = true := by kernel_rfl
theorem fc77 : compF Go.Proofs.Try.prog 77 = some (29, r77, c77) := by rfl
theorem fn77 : (Go.Proofs.Try.prog.funcs[77]?).all (fun fn => !(fn.name == "runtime.NumGoroutine")) = true := by kernel_rfl
theorem follows : Go.Proofs.Try.prog.follows .mixedOrders = true := by kernel_rfl
theorem fc101 : compF Go.Proofs.Try.prog 101 = some (8, r101, c101) := by rfl
theorem fn101 : (Go.Proofs.Try.prog.funcs[101]?).all (fun fn => !(fn.name == "runtime.NumGoroutine")) = true := by kernel_rfl
theorem g101 : GoFn Go.Proofs.Try.prog 101 8 [.tmp 2] (cloC 4 64 zI) := by
  have h := go_ok fc101 fn101
  rw [t_cloI] at h
  exact h
theorem fc91 : compF Go.Proofs.Try.prog 91 = some (8, r91, c91) := by rfl
theorem fn91 : (Go.Proofs.Try.prog.funcs[91]?).all (fun fn => !(fn.name == "runtime.NumGoroutine")) = true := by kernel_rfl
theorem g91 : GoFn Go.Proofs.Try.prog 91 8 [.tmp 2] (cloC 2 32 zK) := by
  have h := go_ok fc91 fn91
  rw [t_cloK] at h
  exact h
theorem fc92 : compF Go.Proofs.Try.prog 92 = some (8, r92, c92) := by rfl
theorem fn92 : (Go.Proofs.Try.prog.funcs[92]?).all (fun fn => !(fn.name == "runtime.NumGoroutine")) = true := by kernel_rfl
theorem g92 : GoFn Go.Proofs.Try.prog 92 8 [.tmp 2] (cloC 1 1 [.sc (.int .u8 0)]) := by
  have h := go_ok fc92 fn92
  rw [t_cloB] at h
  exact h
theorem ov150 : PrimOk Go.Proofs.Try.prog 150 ovP := ovP_ok ⟨_, 31, 4, _, _, Go.Proofs.Try.func150, by kernel_rfl, by kernel_rfl, by kernel_rfl, by kernel_rfl, Go.Proofs.Try.underlying31, rfl⟩
theorem ov153 : PrimOk Go.Proofs.Try.prog 153 ovP := ovP_ok ⟨_, 32, 4, _, _, Go.Proofs.Try.func153, by kernel_rfl, by kernel_rfl, by kernel_rfl, by kernel_rfl, Go.Proofs.Try.underlying32, rfl⟩
theorem fc102 : compF Go.Proofs.Try.prog 102 = some (95, r102, c102) := by rfl
theorem fn102 : (Go.Proofs.Try.prog.funcs[102]?).all (fun fn => !(fn.name == "runtime.NumGoroutine")) = true := by kernel_rfl
theorem g102 : GoFn Go.Proofs.Try.prog 102 95 [.tmp 6] (insC 4 64 zI 150 151) := by
  have h := go_ok fc102 fn102
  rw [t_insI] at h
  exact h
theorem fc152 : compF Go.Proofs.Try.prog 152 = some (95, r152, c152) := by rfl
theorem fn152 : (Go.Proofs.Try.prog.funcs[152]?).all (fun fn => !(fn.name == "runtime.NumGoroutine")) = true := by kernel_rfl
theorem g152 : GoFn Go.Proofs.Try.prog 152 95 [.tmp 6] (insC 2 32 zK 153 154) := by
  have h := go_ok fc152 fn152
  rw [t_insK] at h
  exact h
theorem fc103 : compF Go.Proofs.Try.prog 103 = some (224, r103, c103) := by rfl
theorem fn103 : (Go.Proofs.Try.prog.funcs[103]?).all (fun fn => !(fn.name == "runtime.NumGoroutine")) = true := by kernel_rfl
theorem g103 : GoFn Go.Proofs.Try.prog 103 224 [.tmp 8] (repC 2 32 zK 152 153 154 155) := by
  have h := go_ok fc103 fn103
  rw [t_repK] at h
  exact h
theorem fc137 : compF Go.Proofs.Try.prog 137 = some (33, r137, c137) := by rfl
theorem fn137 : (Go.Proofs.Try.prog.funcs[137]?).all (fun fn => !(fn.name == "runtime.NumGoroutine")) = true := by kernel_rfl
theorem g137 : GoFn Go.Proofs.Try.prog 137 33 [.tmp 6] (delC 4 64 zI) := by
  have h := go_ok fc137 fn137
  rw [t_delI] at h
  exact h
def ftO : FT
  | 150 => some (.prim ovP)
  | 153 => some (.prim ovP)
  | _ => none
theorem ftO_ok : FTOk Go.Proofs.Try.prog ftO := by
  intro k d h
  unfold ftO at h
  split at h
  · cases h; exact ov150
  · cases h; exact ov153
  · cases h
theorem p102 : PrimOk Go.Proofs.Try.prog 102 (insP 4 64) := slP_ok follows ftO_ok g102 (insP_sl (ft := ftO) rfl rfl (by decide))
theorem p152 : PrimOk Go.Proofs.Try.prog 152 (insP 2 32) := slP_ok follows ftO_ok g152 (insP_sl (ft := ftO) rfl rfl (by decide))
def ftO2 : FT
  | 153 => some (.prim ovP)
  | 152 => some (.prim (insP 2 32))
  | _ => none
theorem ftO2_ok : FTOk Go.Proofs.Try.prog ftO2 := by
  intro k d h
  unfold ftO2 at h
  split at h
  · cases h; exact ov153
  · cases h; exact p152
  · cases h
theorem p101 : PPrimOk Go.Proofs.Try.prog 101 (cloF 4 64) := cloF_ok follows g101
theorem p91 : PrimOk Go.Proofs.Try.prog 91 (cloP 2 32) := cloP_ok follows g91
theorem p92 : PPrimOk Go.Proofs.Try.prog 92 (cloF 1 1) := cloF_ok follows g92
theorem p103 : PrimOk Go.Proofs.Try.prog 103 (repP 2 32) := slP_ok follows ftO2_ok g103 (repP_sl (ft := ftO2) rfl rfl rfl (by decide))
theorem p137 : PrimOk Go.Proofs.Try.prog 137 (delP 4 64) := slP_ok follows ftO_ok g137 (delP_sl (ft := ftO) (by decide))
theorem ft_ok : FTOk Go.Proofs.Try.prog ft := by
  intro k d h
  unfold ft at h
  split at h
  · cases h; exact go_ok fc20 fn20
  · cases h; exact go_ok fc21 fn21
  · cases h; exact go_ok fc23 fn23
  · cases h; exact go_ok fc26 fn26
  · cases h; exact go_ok fc27 fn27
  · cases h; exact go_ok fc28 fn28
  · cases h; exact go_ok fc29 fn29
  · cases h; exact go_ok fc30 fn30
  · cases h; exact go_ok fc32 fn32
  · cases h; exact go_ok fc33 fn33
  · cases h; exact go_ok fc34 fn34
  · cases h; exact go_ok fc75 fn75
  · cases h; exact go_ok fc76 fn76
  · cases h; exact go_ok fc78 fn78
  · cases h; exact go_ok fc79 fn79
  · cases h; exact go_ok fc80 fn80
  · cases h; exact go_ok fc81 fn81
  · cases h; exact go_ok fc82 fn82
  · cases h; exact go_ok fc83 fn83
  · cases h; exact go_ok fc84 fn84
  · cases h; exact go_ok fc85 fn85
  · cases h; exact go_ok fc86 fn86
  · cases h; exact go_ok fc89 fn89
  · cases h; exact go_ok fc90 fn90
  · cases h; exact go_ok fc93 fn93
  · cases h; exact go_ok fc94 fn94
  · cases h; exact go_ok fc95 fn95
  · cases h; exact go_ok fc96 fn96
  · cases h; exact go_ok fc97 fn97
  · cases h; exact go_ok fc98 fn98
  · cases h; exact go_ok fc99 fn99
  · cases h; exact go_ok fc100 fn100
  · cases h; exact go_ok fc104 fn104
  · cases h; exact go_ok fc134 fn134
  · cases h; exact go_ok fc135 fn135
  · cases h; exact go_ok fc136 fn136
  · cases h; exact go_ok fc138 fn138
  · cases h; exact go_ok fc139 fn139
  · cases h; exact go_ok fc140 fn140
  · cases h; exact go_ok fc141 fn141
  · cases h; exact go_ok fc142 fn142
  · cases h; exact go_ok fc143 fn143
  · cases h; exact go_ok fc144 fn144
  · cases h; exact go_ok fc145 fn145
  · cases h; exact go_ok fc146 fn146
  · cases h; exact go_ok fc147 fn147
  · cases h; exact go_ok fc148 fn148
  · cases h; exact go_ok fc149 fn149
  · cases h; exact go_ok fc156 fn156
  · cases h; exact go_ok fc157 fn157
  · cases h; exact go_ok fc169 fn169
  · cases h; exact go_ok fc170 fn170
  · cases h; exact go_ok fc171 fn171
  · cases h; exact go_ok fc172 fn172
  · cases h; exact go_ok fc173 fn173
  · cases h; exact go_ok fc174 fn174
  · cases h; exact go_ok fc175 fn175
  · cases h; exact go_ok fc176 fn176
  · cases h; exact go_ok fc179 fn179
  · cases h; exact go_ok fc184 fn184
  · cases h; exact go_ok fc185 fn185
  · cases h; exact go_ok fc186 fn186
  · cases h; exact go_ok fc187 fn187
  · cases h; exact p101
  · cases h; exact p91
  · cases h; exact p92
  · cases h; exact cmp_ok Go.Proofs.Try.func183 (by kernel_rfl) (by kernel_rfl) (by kernel_rfl) (by kernel_rfl)
  · cases h; exact ov150
  · cases h; exact ov153
  · cases h; exact p102
  · cases h; exact p152
  · cases h; exact p103
  · cases h; exact p137
  · cases h
theorem ftL_ok : FTOk Go.Proofs.Try.prog ftL := by
  intro k d h
  unfold ftL at h
  split at h
  · cases h; exact go_ok fc4 fn4
  · cases h; exact go_ok fc19 fn19
  · cases h; exact go_ok fc31 fn31
  · cases h; exact go_ok fc77 fn77
  · exact ft_ok _ _ h
theorem ftW_ok : FTOk Go.Proofs.Try.prog ftW := by
  intro k d h
  unfold ftW at h
  split at h
  · cases h; exact goP_ok follows ft_ok ⟨_, _, _, rfl⟩
  · cases h; exact cloD_ok follows g101
  · cases h; exact p102
  · cases h
theorem ftV_ok : FTOk Go.Proofs.Try.prog ftV := by
  intro k d h
  unfold ftV at h
  split at h
  · cases h; exact goP_ok follows ft_ok ⟨_, _, _, rfl⟩
  · cases h; exact cloP_ok follows g101
  · cases h; exact p137
  · cases h; exact go_ok fc77 fn77
  · cases h
theorem ftX_ok : FTOk Go.Proofs.Try.prog ftX := by
  intro k d h
  unfold ftX at h
  split at h
  · rename_i e
    subst e
    cases h
    exact slD_ok follows ftW_ok (go_ok fc31 fn31) withP_sl
  · split at h
    · rename_i e
      subst e
      cases h
      exact goP_ok follows ftV_ok ⟨_, _, _, rfl⟩
    · exact ftL_ok _ _ h
end Go.VI

set_option linter.unusedVariables false
set_option linter.unusedSimpArgs false
namespace Go.VI
open Go.Proofs
theorem RD.mono {P : Program} {W : World} {t : TypeId} {E E' : List AV → Prop} (h : RD P W t E) (hE : ∀ xs, E xs → E' xs) : RD P W t E' := fun H enc base spare held fuel cs x hx hw => by
  obtain ⟨xs, h1, h2⟩ := h H enc base spare held fuel cs x hx hw
  exact ⟨xs, hE xs h1, h2⟩
theorem rows_map {α : Type} {g : α → List AV} {p : α → Prop} : ∀ {rows : List (List AV)}, (∀ r ∈ rows, ∃ x, r = g x ∧ p x) → ∃ l : List α, rows = l.map g ∧ ∀ x ∈ l, p x
  | [], _ => ⟨[], rfl, by simp⟩
  | r :: rows, h => by
    obtain ⟨x, rfl, hx⟩ := h r List.mem_cons_self
    obtain ⟨l, rfl, hl⟩ := rows_map fun r hr => h r (List.mem_cons_of_mem _ hr)
    exact ⟨x :: l, rfl, fun y hy => by
      rcases List.mem_cons.1 hy with rfl | hy
      · exact hx
      · exact hl y hy⟩
theorem CVF.append {F : Fz} {a b : List AV} {cs : List Value} {n : Nat} (hn : n ≤ cs.length) (ha : CVF F a (cs.take n)) (hb : CVF F b (cs.drop n)) : CVF F (a ++ b) cs := by
  have hla : a.length = n := by rw [ha.1, List.length_take]; omega
  refine ⟨by rw [List.length_append, hb.1, hla, List.length_drop]; omega, fun i c h => ?_⟩
  by_cases hi : i < n
  · rw [List.getElem?_append_left (by omega)] at h
    obtain ⟨h1, h2⟩ := ha.2 i c h
    refine ⟨h1, ?_⟩
    rwa [List.getD_eq_getElem?_getD, List.getElem?_take_of_lt hi, ← List.getD_eq_getElem?_getD] at h2
  · rw [List.getElem?_append_right (by omega)] at h
    obtain ⟨h1, h2⟩ := hb.2 _ c h
    refine ⟨h1, ?_⟩
    rw [List.getD_eq_getElem?_getD, List.getElem?_drop] at h2
    rw [List.getD_eq_getElem?_getD]
    rwa [show n + (i - a.length) = i by omega] at h2
theorem rd_elems {P : Program} {W : World} {e : TypeId} {E : List AV → Prop} (he : RD P W e E) {sz : Nat} {H : Type} {enc : TypeId × Value → H} {base : Nat} {spare : Nat → Bool} {held : Bool} {m : Nat} :
    ∀ (n : Nat) (cs : List Value) (xs : List (DataW H × List MemPlace)), xs.length = n → cs.length = n * sz →
      (∀ i, i < n → DataW.trod enc P W base spare held m e ((cs.drop (i * sz)).take sz) = xs[i]?) → (∀ k ∈ DataW.weightsAll P e (xs.map (·.1)), k ≤ reachBytes) →
      ∃ rows : List (List AV), rows.length = n ∧ (∀ r ∈ rows, E r ∧ r.length = sz) ∧ CVF (frzW W) rows.flatten cs
  | 0, cs, xs, _, hc, _, _ => ⟨[], rfl, by simp, by
      rw [Nat.zero_mul] at hc
      exact ⟨hc.symm, fun i c h => by simp at h⟩⟩
  | n + 1, cs, [], hl, _, _, _ => by simp at hl
  | n + 1, cs, x :: xs, hl, hc, hx, hw => by
    simp only [List.length_cons, Nat.add_right_cancel_iff] at hl
    rw [Nat.add_one_mul] at hc
    have h0 := hx 0 (by omega)
    rw [Nat.zero_mul, List.drop_zero, List.getElem?_cons_zero] at h0
    simp only [List.map_cons, DataW.weightsAll, List.mem_append] at hw
    obtain ⟨r, h1, h2⟩ := he H enc base spare held m _ x h0 fun k hk => hw k (.inl hk)
    have hlr : r.length = sz := by rw [h2.1, List.length_take]; omega
    obtain ⟨rows, q1, q2, q3⟩ := rd_elems he (sz := sz) (enc := enc) (base := base) (spare := spare) (held := held) (m := m) n (cs.drop sz) xs hl (by rw [List.length_drop]; omega) (fun i hi => by
      have := hx (i + 1) (by omega)
      rw [List.getElem?_cons_succ] at this
      rw [List.drop_drop, ← this, Nat.add_one_mul, Nat.add_comm]) fun k hk => hw k (.inr hk)
    refine ⟨r :: rows, by simp [q1], fun y hy => ?_, ?_⟩
    · rcases List.mem_cons.1 hy with rfl | hy
      · exact ⟨h1, hlr⟩
      · exact q2 y hy
    · rw [List.flatten_cons]
      exact .append (n := sz) (by omega) h2 q3
theorem rd_array {P : Program} {W : World} {t e : TypeId} {E : List AV → Prop} {n sz : Nat} (ht : P.underlying t = some (.array n e)) (hc : P.cellsOf e = sz) (hct : P.cellsOf t = n * sz) (he : RD P W e E) :
    RD P W t fun xs => ∃ rows : List (List AV), xs = rows.flatten ∧ rows.length = n ∧ ∀ r ∈ rows, E r ∧ r.length = sz := fun H enc base spare held fuel cs x h hw => by
  obtain ⟨xs, m, rfl, rfl, hl, hx, hf⟩ := DataW.trod_array ht h
  rw [hc] at hf
  obtain ⟨rows, q1, q2, q3⟩ := rd_elems he n cs xs hx (by rw [hl, hct]) hf fun k hk => hw k (by simpa [DataW.weights, ht] using hk)
  exact ⟨_, ⟨rows, rfl, q1, q2⟩, q3⟩
theorem okWide_agg {P : Program} {w : World} {r : Reach} {base : Nat} {t e : TypeId} {n : Nat} {v : Value} (ht : P.underlying t = some (.array n e)) (h : Value.okWide P w r base t v) : ∃ cs, v = .agg cs := by
  unfold Value.okWide at h
  rw [ht] at h
  obtain ⟨cs, h1, _⟩ := h
  exact ⟨cs, h1⟩
theorem okWide_stc {P : Program} {w : World} {r : Reach} {base : Nat} {t : TypeId} {fs : Array Field} {v : Value} (ht : P.underlying t = some (.struct fs)) (h : Value.okWide P w r base t v) : ∃ cs, v = .agg cs := by
  unfold Value.okWide at h
  rw [ht] at h
  obtain ⟨cs, h1, _⟩ := h
  exact ⟨cs, h1⟩
/-- Arguments: aggregates among them. -/
def CVA (F : Fz) (xs : List AV) (cs : List Value) : Prop := xs.length = cs.length ∧ ∀ i c, xs[i]? = some c → VF F c (cs.getD i undef)
theorem CVA.one {F : Fz} {a : AV} {v : Value} (h : VF F a v) : CVA F [a] [v] := ⟨rfl, fun i c hc => by
  cases i with
  | zero => cases hc; exact h
  | succ i => simp at hc⟩
theorem CVA.cons {F : Fz} {a : AV} {v : Value} {l : List AV} {vs : List Value} (h : CVA F [a] [v]) (ht : CVA F l vs) : CVA F (a :: l) (v :: vs) := ⟨by simp [ht.1], fun i c hc => by
  cases i with
  | zero => exact h.2 0 c hc
  | succ i => exact ht.2 i c hc⟩
theorem CVA.agg {F : Fz} {xs : List AV} {cs : Array Value} (h : CVF F xs cs.toList) : CVA F [.agg xs] [.agg cs] :=
  .one (.agg (by have := h.1; simpa using this.symm) (fun i c hc => (h.2 i c hc).1) (fun i c hc => by
    have := (h.2 i c hc).2
    rwa [List.getD_eq_getElem?_getD, Array.getElem?_toList, ← Array.getD_eq_getD_getElem?] at this))
theorem vrs_ofA {F : Fz} {m : Mp} {args : List AV} {vs : List Value} (h : CVA F args vs) : VRs m F args vs.toArray := by
  refine ⟨?_, ?_⟩
  · simp [h.1]
  · intro i c hc
    have := h.2 i c hc
    simpa using VR.fz this
variable (W : World)
theorem rdB : RD Try.prog W 27 fun xs => ∃ l : Bytes, xs = [encB l] ∧ okB l :=
  (rd_slice (sz := 1) (B := 1) Try.underlying27 (by kernel_rfl) (by decide) (by kernel_rfl) (rd_int Try.underlying5)).mono fun xs ⟨rows, h1, h2, h3⟩ => by
    obtain ⟨l, rfl, hl⟩ := rows_map (g := byteC) (p := fun n => (Lit.int .u8 n).wf = true) fun r hr => (h2 r hr).1
    refine ⟨l, h1, ?_, ?_⟩
    · simp only [List.length_map, reachBytes] at h3
      unfold MX
      omega
    · unfold byteR
      rw [List.all_eq_true]
      intro n hn
      have := hl n hn
      simp only [Lit.wf, IntKind.min, IntKind.max, IntKind.signed, IntKind.bits] at this
      simp at this
      simp
      omega
theorem rdN : RD Try.prog W 3 fun xs => ∃ n, xs = [int n] ∧ (Lit.int .i64 n).wf = true := rd_int Try.underlying3
theorem rdIt : RD Try.prog W 52 fun xs => ∃ x : ItemM, xs = itemC x ∧ okIt x :=
  (rd_struct (Es := [_, _, _, _]) Try.underlying52 (by kernel_rfl) ⟨rdB W, rdB W, rdN W, rdN W, trivial⟩).mono fun xs h => by
    obtain ⟨_, _, rfl, ⟨k, rfl, hk⟩, _, _, rfl, ⟨v, rfl, hv⟩, _, _, rfl, ⟨s, rfl, _⟩, _, _, rfl, ⟨r, rfl, _⟩, rfl⟩ := h
    exact ⟨⟨k, v, s, r⟩, rfl, hk, hv⟩
theorem rdI : RD Try.prog W 22 fun xs => ∃ l : List ItemM, xs = [encI l] ∧ okI l :=
  (rd_slice (sz := 4) (B := 64) Try.underlying22 (by kernel_rfl) (by decide) (by kernel_rfl) (rdIt W)).mono fun xs ⟨rows, h1, h2, h3⟩ => by
    obtain ⟨l, rfl, hl⟩ := rows_map (g := itemC) (p := okIt) fun r hr => (h2 r hr).1
    refine ⟨l, h1, ?_, hl⟩
    simp only [List.length_map, reachBytes] at h3
    unfold MX
    omega
theorem rdKd : RD Try.prog W 29 fun xs => ∃ x : KidM, xs = kidC x ∧ okB x.key :=
  (rd_struct (Es := [_, _]) Try.underlying29 (by kernel_rfl) ⟨rdB W, rdN W, trivial⟩).mono fun xs h => by
    obtain ⟨_, _, rfl, ⟨k, rfl, hk⟩, _, _, rfl, ⟨r, rfl, _⟩, rfl⟩ := h
    exact ⟨⟨k, r⟩, rfl, hk⟩
theorem rdK : RD Try.prog W 23 fun xs => ∃ l : List KidM, xs = [encK l] ∧ okK l :=
  (rd_slice (sz := 2) (B := 32) Try.underlying23 (by kernel_rfl) (by decide) (by kernel_rfl) (rdKd W)).mono fun xs ⟨rows, h1, h2, h3⟩ => by
    obtain ⟨l, rfl, hl⟩ := rows_map (g := kidC) (p := fun x => okB x.key) fun r hr => (h2 r hr).1
    refine ⟨l, h1, ?_, hl⟩
    simp only [List.length_map, reachBytes] at h3
    unfold MX
    omega
theorem rdNode : RD Try.prog W 25 fun xs => ∃ x : NodeM, xs = nodeC x ∧ okN x :=
  (rd_struct (Es := [_, _, _]) Try.underlying25 (by kernel_rfl) ⟨rd_bool Try.underlying4, rdI W, rdK W, trivial⟩).mono fun xs h => by
    obtain ⟨_, _, rfl, ⟨b, rfl⟩, _, _, rfl, ⟨i, rfl, hi⟩, _, _, rfl, ⟨k, rfl, hk⟩, rfl⟩ := h
    exact ⟨⟨b, i, k⟩, rfl, hi, hk⟩
def encA3 (p : Int × Int × Int) : List AV := [int p.1, int p.2.1, int p.2.2]
def okA3 (p : Int × Int × Int) : Prop := (Lit.int .i64 p.1).wf = true ∧ (Lit.int .i64 p.2.1).wf = true ∧ (Lit.int .i64 p.2.2).wf = true
theorem rdA3 : RD Try.prog W 53 fun xs => ∃ p : Int × Int × Int, xs = encA3 p ∧ okA3 p :=
  (rd_array (n := 3) (sz := 1) Try.underlying53 (by kernel_rfl) (by kernel_rfl) (rdN W)).mono fun xs ⟨rows, h1, h2, h3⟩ => by
    match rows, h2 with
    | [r, s, t], _ =>
      obtain ⟨⟨a, rfl, ha⟩, _⟩ := h3 r (by simp)
      obtain ⟨⟨b, rfl, hb⟩, _⟩ := h3 s (by simp)
      obtain ⟨⟨c, rfl, hc⟩, _⟩ := h3 t (by simp)
      exact ⟨(a, b, c), h1, ha, hb, hc⟩
end Go.VI

set_option linter.unusedVariables false
set_option linter.unusedSimpArgs false
set_option maxRecDepth 100000
namespace Go.VI
attribute [local congr] AW_congr OW_congr DW_congr NW_congr VW_congr GW_congr PW_congr KW_congr ite_congr' GV_congr CV_congr
def RetE (rs : List ARes) (R : AV) (P : Heap → Prop) (x : AExit) (e : Env) (H : Heap) : Prop := leaves x = true ∧ resultsA H e rs = some R ∧ P H
theorem call_oE {ft : FT} {k : FuncId} {first caps args : List AV} {H : Heap} {n : Nat} {rs : List ARes} {body : ACode} {R : AV} {P : Heap → Prop} (hk : ft k = some (.go false n rs body)) (hl : (first ++ args ++ caps).length ≤ n)
    (h : AW ft body (mkE n (ofL (first ++ args ++ caps))) (hx H []) (RetE rs R P)) : ∃ H1, callL ft (.fn (.func k) first caps) args H = some (R, H1) ∧ P H1 := by
  obtain ⟨x, e', Hc, h1, hx_, h2, h3⟩ := h
  refine ⟨Hc, ?_, h3⟩
  refine call_o hk hl ⟨x, e', Hc, h1, hx_, h2, rfl⟩
theorem RetE_go {rs : List ARes} {R : AV} {P : Heap → Prop} {x : AExit} {n : Nat} {f : Nat → AV} {H : Heap} : RetE rs R P x (mkE n f) H ↔ leaves x = true ∧ (rs.mapM (resOf H (mkE n f))).map retV = some R ∧ P H := Iff.rfl
theorem KW_ex {ft : FT} {f : AV} {args : List AV} {K : Heap} {Q : AV → Heap → Prop} {R : AV} {P : Heap → Prop} (h : ∃ H', callL ft f args K = some (R, H') ∧ P H') (hq : ∀ H', P H' → Q R H') : KW ft f args K Q := by
  obtain ⟨H', h1, h2⟩ := h
  exact ⟨R, H', h1, hq H' h2⟩
def cutF : AV := .fn (.func 82) [] [.ptr 0 0 0, .ptr 2 0 0, .ptr 3 0 0]
def partC (p : Bytes × NodeM) : List AV := encB p.1 :: nodeC p.2
/-- What the closure finds. -/
structure PSt (g : Int) (K : Heap) (rows : List (List AV)) : Prop where
  g : K.get 0 = some (.box false [int g])
  f : K.get 3 = some (.box false [cutF])
  out : ∃ S, K.get 2 = some (.box false [S]) ∧ Rep K 4 S rows
/-- Boxes stay, but that of what is made. -/
def Kp (K K' : Heap) : Prop := K.next ≤ K'.next ∧ ∀ j cs, j ≠ 2 → K.get j = some (.box false cs) → K'.get j = some (.box false cs)
theorem Kp.trans {K K' K'' : Heap} (h : Kp K K') (h' : Kp K' K'') : Kp K K'' := ⟨Nat.le_trans h.1 h'.1, fun j cs hj hb => h'.2 j cs hj (h.2 j cs hj hb)⟩
theorem Kp.hx (K : Heap) (L : List Blk) : Kp K (hx K L) := ⟨by rw [hx_next]; omega, fun j cs _ hb => get_old hb L⟩
theorem PSt.hx {g : Int} {K : Heap} {rows : List (List AV)} (h : PSt g K rows) (L : List Blk) : PSt g (hx K L) rows := by
  obtain ⟨S, h1, h2⟩ := h.out
  exact ⟨get_old h.g L, get_old h.f L, S, get_old h1 L, h2.mono fun id hid => get_old hid L⟩
theorem parts_len (g : Int) (d : Nat) (key : Bytes) (n : NodeM) : (partsM g d key n).length ≤ max 1 (roomsM g n).length := by
  induction d generalizing key n with
  | zero => simp [partsM]; omega
  | succ d ih =>
    unfold partsM
    split
    · simp; omega
    · rename_i hc
      have h2 : 2 ≤ (roomsM g n).length := by
        simp only [Bool.or_eq_true, decide_eq_true_eq, not_or] at hc
        omega
      obtain ⟨b1, b2⟩ := atM_bound g n h2
      have i1 := ih key (cutM n (atM g n)).1
      have i2 := ih (cutM n (atM g n)).2.2 (cutM n (atM g n)).2.1
      rw [rooms_cut_l, List.length_take] at i1
      rw [rooms_cut_r] at i2
      rw [List.length_append]
      omega
theorem okB_nil : okB [] := ⟨by unfold MX; simp, rfl⟩
theorem okI_take {l : List ItemM} (h : okI l) (k : Nat) : okI (l.take k) := ⟨by have := h.n; simp; omega, fun x hx => h.h x (List.mem_of_mem_take hx)⟩
theorem okI_drop {l : List ItemM} (h : okI l) (k : Nat) : okI (l.drop k) := ⟨by have := h.n; simp; omega, fun x hx => h.h x (List.mem_of_mem_drop hx)⟩
theorem okK_take {l : List KidM} (h : okK l) (k : Nat) : okK (l.take k) := ⟨by have := h.n; simp; omega, fun x hx => h.h x (List.mem_of_mem_take hx)⟩
theorem okK_drop {l : List KidM} (h : okK l) (k : Nat) : okK (l.drop k) := ⟨by have := h.n; simp; omega, fun x hx => h.h x (List.mem_of_mem_drop hx)⟩
theorem okK_noKey {l : List KidM} (h : okK l) : okK (noKey l) := ⟨by rw [noKey_len]; exact h.n, fun x hx => by
  cases l with
  | nil => cases hx
  | cons y r =>
    rcases List.mem_cons.1 hx with rfl | hx
    · exact okB_nil
    · exact h.h x (List.mem_cons_of_mem _ hx)⟩
theorem okI_nil : okI [] := ⟨by unfold MX; simp, fun _ h => by cases h⟩
theorem okK_nil : okK [] := ⟨by unfold MX; simp, fun _ h => by cases h⟩
theorem okN_cut {n : NodeM} (h : okN n) (k : Nat) : okN (cutM n k).1 ∧ okN (cutM n k).2.1 ∧ okB (cutM n k).2.2 := by
  unfold cutM
  split
  · refine ⟨⟨okI_take h.i k, okK_nil⟩, ⟨okI_drop h.i k, okK_nil⟩, ?_⟩
    show okB (((n.items[k]?).map (·.key)).getD [])
    cases hx : n.items[k]? with
    | none => exact okB_nil
    | some x => exact (h.i.h x (List.mem_of_getElem? hx)).k
  · refine ⟨⟨okI_nil, okK_take h.k k⟩, ⟨okI_nil, okK_noKey (okK_drop h.k k)⟩, ?_⟩
    show okB (((n.kids[k]?).map (·.key)).getD [])
    cases hx : n.kids[k]? with
    | none => exact okB_nil
    | some x => exact h.k.h x (List.mem_of_getElem? hx)
theorem cut_lens {n : NodeM} {k : Nat} (h1 : n.items.length ≤ 1000) (h2 : n.kids.length ≤ 1000) : (cutM n k).1.items.length ≤ 1000 ∧ (cutM n k).1.kids.length ≤ 1000 ∧ (cutM n k).2.1.items.length ≤ 1000 ∧ (cutM n k).2.1.kids.length ≤ 1000 := by
  unfold cutM
  split <;> simp [noKey_len] <;> omega
theorem old_at {K : Heap} {S : AV} {rows : List (List AV)} (hR : Rep K 4 S rows) {j : Nat} {cs : List AV} (hj : j ≠ 2) (h : K.get j = some (.box false cs)) (B : Blk) (L : List Blk) : (hx ((kill K S).set 2 B) L).get j = some (.box false cs) := by
  have h1 : (kill K S).get j = some (.box false cs) := kill_get hR h (fun r e => by cases e)
  rw [hx_get_old _ _ _ (by rw [Heap.next_set, kill_next]; exact Heap.get_lt h), Heap.get_set_ne _ hj, h1]
theorem push_end {g : Int} {K : Heap} {rows : List (List AV)} (hp : PSt g K rows) {S : AV} (hR : Rep K 4 S rows) {x : List AV} {b1 b2 : Blk} :
    PSt g (hx ((kill K S).set 2 (.box false [.sl (K.next + 2) 0 (rows.length + 1)])) [b1, b2, .row false 4 (rows ++ [x])]) (rows ++ [x]) ∧ Kp K (hx ((kill K S).set 2 (.box false [.sl (K.next + 2) 0 (rows.length + 1)])) [b1, b2, .row false 4 (rows ++ [x])]) := by
  have n0 : 3 < K.next := Heap.get_lt hp.f
  have hn : ((kill K S).set 2 (.box false [.sl (K.next + 2) 0 (rows.length + 1)])).next = K.next := by rw [Heap.next_set, kill_next]
  refine ⟨⟨old_at hR (by decide) hp.g _ _, old_at hR (by decide) hp.f _ _, .sl (K.next + 2) 0 (rows.length + 1), ?_, .inr ⟨K.next + 2, by simp, ?_⟩⟩, ?_, fun j cs hj h => old_at hR hj h _ _⟩
  · rw [hx_get_old _ _ _ (by rw [hn]; omega), Heap.get_set_self _ (by rw [kill_next]; omega)]
  · have := hx_get ((kill K S).set 2 (.box false [.sl (K.next + 2) 0 (rows.length + 1)])) [b1, b2, .row false 4 (rows ++ [x])] 2
    rw [hn] at this
    rw [this]
    rfl
  · rw [hx_next, hn]; omega
theorem sPush (g : Int) (key : Bytes) (kv : AV) (n : NodeM) (K : Heap) (rows : List (List AV)) (hn : okN n) (h1 : n.items.length ≤ 1000) (h2 : n.kids.length ≤ 1000) (hc : (fitsM g n || decide ((roomsM g n).length < 2)) = true) (ho : kv.one = true) (hf : ∀ j H, frz (j + 1) H kv = some (encB key, H))
    (hp : PSt g K rows) (hb : rows.length + 1 ≤ 100000) : ∃ K', callL ft cutF [.agg (kv :: nodeC n)] K = some (.tup [], K') ∧ PSt g K' (rows ++ [partC (key, n)]) ∧ Kp K K' := by
  refine call_oE rfl (by simp) ?_
  unfold c82 r82
  obtain ⟨S, hS, hR⟩ := hp.out
  have n0 : 3 < K.next := Heap.get_lt hp.f
  have q0 := fun L => get_old hp.g L
  have q2 := fun L => get_old hS L
  have q2' := fun L => kill_old hR hS (fun r e => by cases e) L
  have qs := fun L b => hx_set_old (kill K S) L b 2 (by rw [kill_next]; omega)
  have kF := fun K L Q => @k26 g n hn h1 h2 K L Q
  have kR := fun K L Q => @k83 g n hn h1 h2 K L Q
  have ap := fun nid L => appA_rep (nid := nid) (bytes := 80) hR (xs := [[encB key, .sc (.bool n.leaf), encI n.items, encK n.kids]]) (by simp) rfl (by simp; omega) L
  simp only [List.length_singleton] at ap
  simp only [nodeC, int, boolA] at kF kR
  simp only [int] at q0
  have he := fun b1 b2 => @push_end g K rows hp S hR (partC (key, n)) b1 b2
  simp only [partC, nodeC, boolA] at he
  cases hfit : fitsM g n with
  | true =>
    rw [hfit] at kF
    simp only [↓vp, vq0, vq1, vq2, vq3, vr0, vr1, vr2, vr3, vr4, vr5, vr6, vr7, vr8, vr9, vr10, vr11, vr12, vr13, vr14, vr15, vr16, vr17, vr18, vr19, vr20, vr21, vr22, vr23, vr24, vr25, vr26, vr27, vr28, vr29, vr30, vr31, vr32, vr33, vr34, opS, fpS, okP, pack, nAl, allocA, shId, leaves, fillA, fillR, splice, Nat.reduceLT, Nat.reduceEqDiff, Nat.reduceLeDiff, Nat.reduceAdd, Nat.reduceSub, Nat.reduceMul, Int.reduceBEq, Int.reduceBNe, Int.reduceLT, Int.reduceLE, Int.reduceEq, reduceIte, reduceCtorEq, da, int, boolA, nodeC, ho, q0, kF]
    simp only [↓vp, vq0, vq1, vq2, vq3, vr0, vr1, vr2, vr3, vr4, vr5, vr6, vr7, vr8, vr9, vr10, vr11, vr12, vr13, vr14, vr15, vr16, vr17, vr18, vr19, vr20, vr21, vr22, vr23, vr24, vr25, vr26, vr27, vr28, vr29, vr30, vr31, vr32, vr33, vr34, opS, fpS, okP, pack, nAl, allocA, shId, leaves, fillA, fillR, splice, Nat.reduceLT, Nat.reduceEqDiff, Nat.reduceLeDiff, Nat.reduceAdd, Nat.reduceSub, Nat.reduceMul, Int.reduceBEq, Int.reduceBNe, Int.reduceLT, Int.reduceLE, Int.reduceEq, reduceIte, reduceCtorEq, da, int, boolA, nodeC, ho, q0, kF, q2, q2', qs, hf, ap, kill_next, RetE_go, resT, resC, resN, retV0, partC]
    exact he _ _
  | false =>
    have hlt : (roomsM g n).length < 2 := by rw [hfit] at hc; simpa using hc
    have g1 : (((roomsM g n).length : Int) < 2) = True := eq_true (by omega)
    rw [hfit] at kF
    simp only [↓vp, vq0, vq1, vq2, vq3, vr0, vr1, vr2, vr3, vr4, vr5, vr6, vr7, vr8, vr9, vr10, vr11, vr12, vr13, vr14, vr15, vr16, vr17, vr18, vr19, vr20, vr21, vr22, vr23, vr24, vr25, vr26, vr27, vr28, vr29, vr30, vr31, vr32, vr33, vr34, opS, fpS, okP, pack, nAl, allocA, shId, leaves, fillA, fillR, splice, Nat.reduceLT, Nat.reduceEqDiff, Nat.reduceLeDiff, Nat.reduceAdd, Nat.reduceSub, Nat.reduceMul, Int.reduceBEq, Int.reduceBNe, Int.reduceLT, Int.reduceLE, Int.reduceEq, reduceIte, reduceCtorEq, da, int, boolA, nodeC, ho, q0, kF, kR, lenZ, g1]
    simp only [↓vp, vq0, vq1, vq2, vq3, vr0, vr1, vr2, vr3, vr4, vr5, vr6, vr7, vr8, vr9, vr10, vr11, vr12, vr13, vr14, vr15, vr16, vr17, vr18, vr19, vr20, vr21, vr22, vr23, vr24, vr25, vr26, vr27, vr28, vr29, vr30, vr31, vr32, vr33, vr34, opS, fpS, okP, pack, nAl, allocA, shId, leaves, fillA, fillR, splice, Nat.reduceLT, Nat.reduceEqDiff, Nat.reduceLeDiff, Nat.reduceAdd, Nat.reduceSub, Nat.reduceMul, Int.reduceBEq, Int.reduceBNe, Int.reduceLT, Int.reduceLE, Int.reduceEq, reduceIte, reduceCtorEq, da, int, boolA, nodeC, ho, q0, kF, q2, q2', qs, hf, ap, kill_next, RetE_go, resT, resC, resN, retV0, partC]
    exact he _ _
theorem sCut (g : Int) : ∀ (d : Nat) (key : Bytes) (kv : AV) (n : NodeM) (K : Heap) (rows : List (List AV)), okN n → n.items.length ≤ 1000 → n.kids.length ≤ 1000 → (roomsM g n).length ≤ d → kv.one = true → (∀ j H, frz (j + 1) H kv = some (encB key, H)) →
    PSt g K rows → rows.length + (roomsM g n).length + 1 ≤ 100000 → ∃ K', callL ft cutF [.agg (kv :: nodeC n)] K = some (.tup [], K') ∧ PSt g K' (rows ++ (partsM g d key n).map partC) ∧ Kp K K' := by
  intro d
  induction d with
  | zero =>
    intro key kv n K rows hn h1 h2 hd ho hf hp hb
    exact sPush g key kv n K rows hn h1 h2 (by simp; right; omega) ho hf hp (by omega)
  | succ d ih =>
    intro key kv n K rows hn h1 h2 hd ho hf hp hb
    cases hc : fitsM g n || decide ((roomsM g n).length < 2) with
    | true =>
      unfold partsM
      rw [hc, if_pos rfl]
      exact sPush g key kv n K rows hn h1 h2 hc ho hf hp (by omega)
    | false =>
      have hfit : fitsM g n = false := by simp at hc; exact hc.1
      have hlt : 2 ≤ (roomsM g n).length := by simp at hc; exact hc.2
      have g1 : (((roomsM g n).length : Int) < 2) = False := eq_false (by omega)
      obtain ⟨b1, b2⟩ := atM_bound g n hlt
      obtain ⟨o1, o2, o3⟩ := okN_cut hn (atM g n)
      obtain ⟨l1, l2, l3, l4⟩ := cut_lens (n := n) (k := atM g n) h1 h2
      have r1 := rooms_cut_l g n (atM g n)
      have r2 := rooms_cut_r g n (atM g n)
      have hmany : (atM g n : Int) < manyN n := by rw [many_rooms g n]; omega
      unfold partsM
      rw [hc, if_neg (by simp)]
      refine call_oE rfl (by simp) ?_
      unfold c82 r82
      have n0 : 3 < K.next := Heap.get_lt hp.f
      have q0 := fun L => get_old hp.g L
      have q3 := fun L => get_old hp.f L
      have kF := fun K L Q => @k26 g n hn h1 h2 K L Q
      have kR := fun K L Q => @k83 g n hn h1 h2 K L Q
      have kA := fun K L Q => @k85 g n hn h1 h2 (by omega) K L Q
      have kC := fun K L Q => @k84 n hn h1 h2 (atM g n) hmany K L Q
      have pA : pureV ft (.fn (.func 85) [] []) [.agg [.sc (.bool n.leaf), encI n.items, encK n.kids], .sc (.int .i64 g)] = some (false, []) := rfl
      have pC : pureV ft (.fn (.func 84) [] []) [.agg [.sc (.bool n.leaf), encI n.items, encK n.kids], .sc (.int .i64 (atM g n : Int))] = some (false, []) := rfl
      have d0 : ∀ i, (0 : Nat) ≠ K.next + i := fun i => by omega
      generalize cutM n (atM g n) = cc at *
      obtain ⟨a, b, kk⟩ := cc
      simp only at o1 o2 o3 l1 l2 l3 l4 r1 r2
      rw [hfit] at kF
      simp only [nodeC, int, boolA] at kF kR kA kC
      simp only [int] at q0
      simp only [↓vp, vq0, vq1, vq2, vq3, vr0, vr1, vr2, vr3, vr4, vr5, vr6, vr7, vr8, vr9, vr10, vr11, vr12, vr13, vr14, vr15, vr16, vr17, vr18, vr19, vr20, vr21, vr22, vr23, vr24, vr25, vr26, vr27, vr28, vr29, vr30, vr31, vr32, vr33, vr34, opS, fpS, okP, pack, nAl, allocA, shId, leaves, fillA, fillR, splice, Nat.reduceLT, Nat.reduceEqDiff, Nat.reduceLeDiff, Nat.reduceAdd, Nat.reduceSub, Nat.reduceMul, Int.reduceBEq, Int.reduceBNe, Int.reduceLT, Int.reduceLE, Int.reduceEq, reduceIte, reduceCtorEq, da, int, boolA, nodeC, ho, q0, kF, kR, lenZ, g1]
      have hcl : kv.cells = [kv] := by cases kv <;> first | rfl | cases ho
      simp only [↓vp, vq0, vq1, vq2, vq3, vr0, vr1, vr2, vr3, vr4, vr5, vr6, vr7, vr8, vr9, vr10, vr11, vr12, vr13, vr14, vr15, vr16, vr17, vr18, vr19, vr20, vr21, vr22, vr23, vr24, vr25, vr26, vr27, vr28, vr29, vr30, vr31, vr32, vr33, vr34, opS, fpS, okP, pack, nAl, allocA, shId, leaves, fillA, fillR, splice, Nat.reduceLT, Nat.reduceEqDiff, Nat.reduceLeDiff, Nat.reduceAdd, Nat.reduceSub, Nat.reduceMul, Int.reduceBEq, Int.reduceBNe, Int.reduceLT, Int.reduceLE, Int.reduceEq, reduceIte, reduceCtorEq, da, int, boolA, nodeC, ho, hcl, q0, q3, kA, kC, pA, pC, d0, compat_ll, apt, nin]
      refine ⟨rfl, ?_⟩
      refine KW_ex (ih key kv a _ rows o1 l1 l2 (by rw [r1, List.length_take]; omega) ho hf (hp.hx _) (by rw [r1, List.length_take]; omega)) fun K1 hk1 => ?_
      obtain ⟨p1, k1⟩ := hk1
      have e0 := k1.2 K.next _ (by omega) (hx_get0 _ _)
      have e2 := k1.2 (K.next + 2) _ (by omega) (hx_get _ _ 2)
      have s0 := fun L => get_old (K := K1) e0 L
      have s2 := fun L => get_old (K := K1) e2 L
      have s3 := fun L => get_old p1.f L
      rw [← hx_nil K1]
      simp only [↓vp, vq0, vq1, vq2, vq3, vr0, vr1, vr2, vr3, vr4, vr5, vr6, vr7, vr8, vr9, vr10, vr11, vr12, vr13, vr14, vr15, vr16, vr17, vr18, vr19, vr20, vr21, vr22, vr23, vr24, vr25, vr26, vr27, vr28, vr29, vr30, vr31, vr32, vr33, vr34, opS, fpS, okP, pack, nAl, allocA, shId, leaves, fillA, fillR, splice, Nat.reduceLT, Nat.reduceEqDiff, Nat.reduceLeDiff, Nat.reduceAdd, Nat.reduceSub, Nat.reduceMul, Int.reduceBEq, Int.reduceBNe, Int.reduceLT, Int.reduceLE, Int.reduceEq, reduceIte, reduceCtorEq, da, int, boolA, nodeC, ho, hcl, s3, s2]
      have pl := parts_len g d key a
      refine KW_ex (ih kk (encB kk) b _ _ o2 l3 l4 (by omega) rfl (fun _ _ => rfl) (p1.hx []) (by rw [List.length_append, List.length_map]; rw [r1, List.length_take] at pl; omega)) fun K2 hk2 => ?_
      obtain ⟨p2, k2⟩ := hk2
      rw [← hx_nil K2]
      simp only [↓vp, vq0, vq1, vq2, vq3, vr0, vr1, vr2, vr3, vr4, vr5, vr6, vr7, vr8, vr9, vr10, vr11, vr12, vr13, vr14, vr15, vr16, vr17, vr18, vr19, vr20, vr21, vr22, vr23, vr24, vr25, vr26, vr27, vr28, vr29, vr30, vr31, vr32, vr33, vr34, opS, fpS, okP, pack, nAl, allocA, shId, leaves, fillA, fillR, splice, Nat.reduceLT, Nat.reduceEqDiff, Nat.reduceLeDiff, Nat.reduceAdd, Nat.reduceSub, Nat.reduceMul, Int.reduceBEq, Int.reduceBNe, Int.reduceLT, Int.reduceLE, Int.reduceEq, reduceIte, reduceCtorEq, da, int, boolA, RetE_go, resT, resC, resN, retV0]
      rw [hx_nil, List.map_append, ← List.append_assoc]
      rw [hx_nil] at k2
      exact ⟨p2, (Kp.hx K _).trans (k1.trans k2)⟩
/-- The pieces, as the program tells them. -/
def encP (l : List (Bytes × NodeM)) : AV := .lst (l.map partC)
theorem s21 (g : Int) (n : NodeM) (hn : okN n) (h1 : n.items.length ≤ 1000) (h2 : n.kids.length ≤ 1000) (H : Heap) :
    callL ft (.fn (.func 21) [] []) [int g, .agg (nodeC n)] H = some (encP (partsM g (roomsM g n).length [] n), H) := by
  refine call_p (as' := [int g, .agg (nodeC n)]) rfl rfl (by simp) ?_
  unfold c21 r21
  simp only [↓vp, vq0, vq1, vq2, vq3, vr0, vr1, vr2, vr3, vr4, vr5, vr6, vr7, vr8, vr9, vr10, vr11, vr12, vr13, vr14, vr15, vr16, vr17, vr18, vr19, vr20, vr21, vr22, vr23, vr24, vr25, vr26, vr27, vr28, vr29, vr30, vr31, vr32, vr33, vr34, opS, fpS, okP, pack, nAl, allocA, shId, leaves, fillA, fillR, splice, Nat.reduceLT, Nat.reduceEqDiff, Nat.reduceLeDiff, Nat.reduceAdd, Nat.reduceSub, Nat.reduceMul, Int.reduceBEq, Int.reduceBNe, Int.reduceLT, Int.reduceLE, Int.reduceEq, reduceIte, reduceCtorEq, da, int, boolA, nodeC]
  have hp : PSt g (hx Heap.empty [.box false [int g], .box false (nodeC n), .box false [.sc (.slice none 0 0)], .box false [cutF]]) [] := ⟨rfl, rfl, _, rfl, .inl ⟨rfl, rfl⟩⟩
  have hl := rooms_len g h1 h2
  refine KW_ex (sCut g (roomsM g n).length [] (.sc (.slice none 0 0)) n _ [] hn h1 h2 (Nat.le_refl _) rfl (fun _ _ => rfl) hp (by simp; omega)) fun K1 hk1 => ?_
  obtain ⟨p1, _⟩ := hk1
  obtain ⟨S, hS, hR⟩ := p1.out
  have q2 := fun L => get_old hS L
  rw [← hx_nil K1]
  obtain ⟨K', hK'⟩ := frz_rep (L := []) (by rw [hx_nil]; exact hR) 23
  simp only [↓vp, vq0, vq1, vq2, vq3, vr0, vr1, vr2, vr3, vr4, vr5, vr6, vr7, vr8, vr9, vr10, vr11, vr12, vr13, vr14, vr15, vr16, vr17, vr18, vr19, vr20, vr21, vr22, vr23, vr24, vr25, vr26, vr27, vr28, vr29, vr30, vr31, vr32, vr33, vr34, opS, fpS, okP, pack, nAl, allocA, shId, leaves, fillA, fillR, splice, Nat.reduceLT, Nat.reduceEqDiff, Nat.reduceLeDiff, Nat.reduceAdd, Nat.reduceSub, Nat.reduceMul, Int.reduceBEq, Int.reduceBNe, Int.reduceLT, Int.reduceLE, Int.reduceEq, reduceIte, reduceCtorEq, da, int, boolA, RetP_go, resT, resC, resN, retV1, retV2, retV3, retV0, frzFZ, takeM, Option.some.injEq, q2, hK']
  rfl
end Go.VI

set_option linter.unusedVariables false
set_option linter.unusedSimpArgs false
set_option maxRecDepth 100000
namespace Go.VI
attribute [local congr] AW_congr OW_congr DW_congr NW_congr VW_congr GW_congr PW_congr KW_congr ite_congr' GV_congr CV_congr
theorem call_frz {ft : FT} {k : FuncId} {args as' : List AV} {H H1 H2 : Heap} {v : AV} (hp : isPure ft k = true) (hz : frzCells H args = some (as', H1)) (hz2 : frzCells H1 as' = some (as', H1)) (h : callL ft (.fn (.func k) [] []) as' H1 = some (v, H2)) :
    callL ft (.fn (.func k) [] []) args H = some (v, H2) := by
  rw [callL_fn] at h ⊢
  unfold callF at h ⊢
  simp only [List.nil_append, List.append_nil] at h ⊢
  unfold isPure at hp
  split at hp
  · rename_i p n rs body hk
    subst hp
    simp only [hk, hz, hz2, Option.bind_some] at h ⊢
    exact h
  · rename_i p hk
    simp only [hk, hz, hz2, Option.bind_some] at h ⊢
    exact h
  · cases hp
theorem frz_again : ∀ (n : Nat), (∀ (v v' : AV) (H H1 : Heap), frz n H v = some (v', H1) → ∀ H2, frz n H2 v' = some (v', H2)) ∧ (∀ (cs cs' : List AV) (H H1 : Heap), frz.frzL n H cs = some (cs', H1) → ∀ H2, frz.frzL n H2 cs' = some (cs', H2)) := by
  intro n
  induction n with
  | zero => exact ⟨fun v v' H H1 h => by simp [frz] at h, fun cs cs' H H1 h => by simp [frz.frzL] at h⟩
  | succ n ih =>
    obtain ⟨ih1, ih2⟩ := ih
    refine ⟨fun v v' H H1 h H2 => ?_, fun cs cs' H H1 h H2 => ?_⟩
    · cases v with
      | bad => simp [frz] at h
      | sc v =>
        cases v <;> (cases h; rfl)
      | lst rows => simp only [frz] at h; cases h; rfl
      | pim rows i off => simp only [frz] at h; cases h; rfl
      | agg cs =>
        simp only [frz, Option.map_eq_some_iff] at h
        obtain ⟨⟨a, b⟩, h, h'⟩ := h
        cases h'
        simp only [frz, ih2 _ _ _ _ h H2, Option.map_some]
      | tup cs =>
        simp only [frz, Option.map_eq_some_iff] at h
        obtain ⟨⟨a, b⟩, h, h'⟩ := h
        cases h'
        simp only [frz, ih2 _ _ _ _ h H2, Option.map_some]
      | fn f a b =>
        simp only [frz, Option.bind_eq_bind, Option.bind_eq_some_iff] at h
        obtain ⟨⟨x, K1⟩, hx, ⟨y, K2⟩, hy, h⟩ := h
        cases h
        simp only [frz, Option.bind_eq_bind, ih2 _ _ _ _ hx H2, ih2 _ _ _ _ hy H2, Option.bind_some]
      | sl id off len =>
        simp only [frz] at h
        split at h
        · split at h
          · cases h; rfl
          · cases h
        · cases h
      | ptr id i off =>
        simp only [frz] at h
        split at h
        · cases h; rfl
        · split at h
          · cases h; rfl
          · cases h
        · split at h
          · simp only [Option.bind_eq_bind, Option.bind_eq_some_iff] at h
            obtain ⟨⟨x, H1⟩, hx, h⟩ := h
            split at h
            · cases h; rfl
            · cases h
          · cases h
        · cases h
      | mp id => simp [frz] at h
      | yld id => simp [frz] at h
    · cases cs with
      | nil => simp only [frz.frzL] at h; cases h; rfl
      | cons c cs =>
        simp only [frz.frzL, Option.bind_eq_bind, Option.bind_eq_some_iff] at h
        obtain ⟨⟨x, K1⟩, hx, ⟨y, K2⟩, hy, h⟩ := h
        cases h
        simp only [frz.frzL, Option.bind_eq_bind, ih1 _ _ _ _ hx H2, ih2 _ _ _ _ hy H2, Option.bind_some]
/-- A call whose arguments are finished. -/
def KF (ft : FT) (f : AV) (args : List AV) (H : Heap) (Q : AV → Heap → Prop) : Prop := KW ft f args H Q
theorem KF_congr {ft : FT} {f f' : AV} {args args' : List AV} {H H' : Heap} {K : AV → Heap → Prop} (h1 : f = f') (h2 : args = args') (h3 : H = H') : KF ft f args H K = KF ft f' args' H' K := by rw [h1, h2, h3]
/-- A pure call: its arguments are finished first. -/
theorem KW_pure {ft : FT} {k : FuncId} (hp : isPure ft k = true) {args : List AV} {H : Heap} {Q : AV → Heap → Prop} : KW ft (.fn (.func k) [] []) args H Q ↔ PW (frzCells H args) fun as' H1 => KF ft (.fn (.func k) [] []) as' H1 Q := by
  constructor
  · rintro ⟨v, H2, h, hq⟩
    have h0 := h
    rw [callL_fn] at h
    unfold callF at h
    simp only [List.nil_append, List.append_nil] at h
    have hz : ∃ as' H1, frzCells H args = some (as', H1) := by
      unfold isPure at hp
      split at hp
      · rename_i p n rs body hk
        subst hp
        simp only [hk, Option.bind_eq_some_iff] at h
        obtain ⟨⟨a, b⟩, h, _⟩ := h
        exact ⟨a, b, h⟩
      · rename_i p hk
        simp only [hk, Option.bind_eq_some_iff] at h
        obtain ⟨⟨a, b⟩, h, _⟩ := h
        exact ⟨a, b, h⟩
      · cases hp
    obtain ⟨as', H1, hz⟩ := hz
    refine ⟨as', H1, hz, v, H2, ?_, hq⟩
    have hz2 : frzCells H1 as' = some (as', H1) := (frz_again FZ).2 _ _ _ _ hz H1
    rw [callL_fn]
    unfold callF
    simp only [List.nil_append, List.append_nil]
    unfold isPure at hp
    split at hp
    · rename_i p n rs body hk
      subst hp
      simp only [hk, hz, hz2, Option.bind_some] at h ⊢
      exact h
    · rename_i p hk
      simp only [hk, hz, hz2, Option.bind_some] at h ⊢
      exact h
    · cases hp
  · rintro ⟨as', H1, hz, v, H2, h, hq⟩
    exact ⟨v, H2, call_frz hp hz ((frz_again FZ).2 _ _ _ _ hz H1) h, hq⟩
theorem frz_sl2 {K : Heap} {r1 r2 : List (List AV)} {n1 n2 : Nat} (h1 : n1 = r1.length) (h2 : n2 = r2.length) : frzCells (hx K [.row false 1 r1, .row false 1 r2]) [.sl K.next 0 n1, .sl (K.next + 1) 0 n2] = some ([.lst r1, .lst r2], hx K [.row true 1 r1, .row true 1 r2]) := by
  subst h1
  subst h2
  have e1 : (hx K [.row false 1 r1, .row false 1 r2]).get K.next = some (.row false 1 r1) := hx_get0 _ _
  have e2 : (hx K [.row true 1 r1, .row false 1 r2]).get (K.next + 1) = some (.row false 1 r2) := hx_get _ _ 1
  have e3 : (hx K [.row false 1 r1, .row false 1 r2]).set K.next (.row true 1 r1) = hx K [.row true 1 r1, .row false 1 r2] := hx_set0 _ _ _
  have e4 : (hx K [.row true 1 r1, .row false 1 r2]).set (K.next + 1) (.row true 1 r2) = hx K [.row true 1 r1, .row true 1 r2] := hx_set _ _ _ 1
  rw [frzCells_eq, frzL_cons, frz_sl, e1]
  simp [frzL_cons, frzL_nil, frz_sl, e2, e3, e4]
theorem okI_with {l : List ItemM} {it : ItemM} (h : okI l) (hl : l.length ≤ 1000) (hit : okIt it) : okI (withI l it) ∧ (withI l it).length ≤ l.length + 1 := by
  have hb := bsM_le l it.key
  unfold withI
  split
  · refine ⟨⟨by have := h.n; simpa using this, fun x hx => ?_⟩, by simp⟩
    rcases List.mem_or_eq_of_mem_set hx with hx | rfl
    · exact h.h x hx
    · exact hit
  · refine ⟨⟨?_, fun x hx => ?_⟩, ?_⟩
    · simp only [List.length_append, List.length_cons, List.length_take, List.length_drop]
      unfold MX
      omega
    · rcases List.mem_append.1 hx with hx | hx
      · exact h.h x (List.mem_of_mem_take hx)
      · rcases List.mem_cons.1 hx with rfl | hx
        · exact hit
        · exact h.h x (List.mem_of_mem_drop hx)
    · simp only [List.length_append, List.length_cons, List.length_take, List.length_drop]
      omega
theorem okN_with {n : NodeM} {it : ItemM} (h : okN n) (hl : n.items.length ≤ 1000) (hit : okIt it) : okN (withM n it) := ⟨(okI_with h.i hl hit).1, h.k⟩
def itA (i : Nat) : ItemM := ⟨[97, 98, 99, 100, 48 + (i : Int)], List.replicate 31 0, 0, 0⟩
def nodeA : Nat → NodeM
  | 0 => ⟨true, [], []⟩
  | i + 1 => withM (nodeA i) (itA i)
theorem okB_lit {l : Bytes} (h : byteR l = true) (hl : l.length ≤ 1000) : okB l := ⟨by unfold MX; omega, h⟩
theorem okIt_A {i : Nat} (h : i < 7) : okIt (itA i) := by
  refine ⟨okB_lit ?_ (by simp [itA]), okB_lit rfl (by simp [itA])⟩
  have : ∀ i < 7, byteR (itA i).key = true := by decide
  exact this i h
theorem nodeA_ok : ∀ {i : Nat}, i ≤ 7 → okN (nodeA i) ∧ (nodeA i).items.length ≤ i
  | 0, _ => ⟨⟨okI_nil, okK_nil⟩, Nat.le_refl _⟩
  | i + 1, h => by
    obtain ⟨h1, h2⟩ := nodeA_ok (i := i) (by omega)
    obtain ⟨_, h4⟩ := okI_with h1.i (by omega) (okIt_A (i := i) (by omega))
    exact ⟨okN_with h1 (by omega) (okIt_A (by omega)), by show (withI _ _).length ≤ _; omega⟩
theorem l19 {Q : AExit → Env → Heap → Prop} (hex : ∀ f' K', K'.get 0 = some (.box false (nodeC (nodeA 7))) → f' 1 = .ptr 0 0 0 → Q (.exit 0) (mkE 152 f') (hx K' [])) :
   ∀ (d i : Nat) (K : Heap) (f : Nat → AV) (c2 c3 : AV), i + d = 7 → K.get 0 = some (.box false [boolA true, c2, c3]) → (∀ H, frzCells H [.agg [boolA true, c2, c3], .agg (itemC (itA i))] = some ([.agg (nodeC (nodeA i)), .agg (itemC (itA i))], H)) → (i = 7 → c2 = encI (nodeA 7).items ∧ c3 = encK []) → f 1 = .ptr 0 0 0 → f 11 = int i →
    AW ftX (.loop c19L0) (mkE 152 f) (hx K []) Q := by
  intro d
  induction d with
  | zero =>
    intro i K f c2 c3 hd hK hz h7 q1 q11
    have g1 : ((i : Int) < 7) = False := eq_false (by omega)
    obtain rfl : i = 7 := by omega
    rw [AW_loop]
    unfold c19L0
    simp only [↓vp, vq0, vq1, vq2, vq3, vr0, vr1, vr2, vr3, vr4, vr5, vr6, vr7, vr8, vr9, vr10, vr11, vr12, vr13, vr14, vr15, vr16, vr17, vr18, vr19, vr20, vr21, vr22, vr23, vr24, vr25, vr26, vr27, vr28, vr29, vr30, vr31, vr32, vr33, vr34, opS, fpS, okP, pack, nAl, allocA, shId, leaves, fillA, fillR, splice, Nat.reduceLT, Nat.reduceEqDiff, Nat.reduceLeDiff, Nat.reduceAdd, Nat.reduceSub, Nat.reduceMul, Int.reduceBEq, Int.reduceBNe, Int.reduceLT, Int.reduceLE, Int.reduceEq, reduceIte, reduceCtorEq, da, int, boolA, q1, q11, g1]
    obtain ⟨rfl, rfl⟩ := h7 rfl
    refine hex _ K hK ?_
    simp only [↓vp, vq0, vq1, vq2, vq3, vr0, vr1, vr2, vr3, vr4, vr5, vr6, vr7, vr8, vr9, vr10, vr11, vr12, vr13, vr14, vr15, vr16, vr17, vr18, vr19, vr20, vr21, vr22, vr23, vr24, vr25, vr26, vr27, vr28, vr29, vr30, vr31, vr32, vr33, vr34, opS, fpS, okP, pack, nAl, allocA, shId, leaves, fillA, fillR, splice, Nat.reduceLT, Nat.reduceEqDiff, Nat.reduceLeDiff, Nat.reduceAdd, Nat.reduceSub, Nat.reduceMul, Int.reduceBEq, Int.reduceBNe, Int.reduceLT, Int.reduceLE, Int.reduceEq, reduceIte, reduceCtorEq, da, int, boolA, q1]
  | succ d ih =>
    intro i K f c2 c3 hd hK hz h7 q1 q11
    have g1 : ((i : Int) < 7) = True := eq_true (by omega)
    have w1 := wrap_succ (show i < 9223372036854775807 by omega)
    have w2 : IntKind.i64.wrap (48 + (i : Int)) = 48 + i := wrap_i64 (by omega)
    have w3 : IntKind.u8.wrap (48 + (i : Int)) = 48 + i := by
      have : ∀ i < 7, IntKind.u8.wrap (48 + ((i : Nat) : Int)) = 48 + (i : Int) := by decide
      exact this i (by omega)
    have g3 : ((31 : Int) * ((1 : Nat) : Int) ≤ 140737488355328) = True := eq_true (by omega)
    have sA : sidP [(0, .sc (.int .u8 97)), (1, .sc (.int .u8 98)), (2, .sc (.int .u8 99)), (3, .sc (.int .u8 100)), (4, .sc (.int .u8 (48 + (i : Int))))] = some [] := rfl
    have pO : pureV ftX (.fn (.func 75) [] []) [.sl K.next 0 5, .sl (K.next + 1) 0 31] = some (true, [K.next, K.next + 1]) := rfl
    obtain ⟨o1, o2⟩ := nodeA_ok (i := i) (by omega)
    have kw : ∀ H, callL ftX (.fn (.func 31) [] []) [.agg (nodeC (nodeA i)), .agg (itemC (itA i))] H = some (.agg (nodeC (withM (nodeA i) (itA i))), H) := fun H => call_pprim (as' := [.agg (nodeC (nodeA i)), .agg (itemC (itA i))]) (p := withP) (by unfold ftX; rw [if_pos rfl]) rfl (withP_eq o1 (by omega) (okIt_A (by omega)))
    have q0 := fun L => get_old hK L
    have n0 : 0 < K.next := Heap.get_lt hK
    have qs := fun L b => hx_set_old K L b 0 n0
    have d0 : ∀ i, (0 : Nat) ≠ K.next + i := fun i => by omega
    have d1 : (0 : Nat) ≠ K.next := by omega
    rw [AW_loop]
    unfold c19L0
    simp only [boolA] at q0
    simp only [↓vp, vq0, vq1, vq2, vq3, vr0, vr1, vr2, vr3, vr4, vr5, vr6, vr7, vr8, vr9, vr10, vr11, vr12, vr13, vr14, vr15, vr16, vr17, vr18, vr19, vr20, vr21, vr22, vr23, vr24, vr25, vr26, vr27, vr28, vr29, vr30, vr31, vr32, vr33, vr34, opS, fpS, okP, pack, nAl, allocA, shId, leaves, fillA, fillR, splice, Nat.reduceLT, Nat.reduceEqDiff, Nat.reduceLeDiff, Nat.reduceAdd, Nat.reduceSub, Nat.reduceMul, Int.reduceBEq, Int.reduceBNe, Int.reduceLT, Int.reduceLE, Int.reduceEq, reduceIte, reduceCtorEq, da, int, boolA, q0, q1, q11, g1, w1, w2, w3, g3, sA, pO, Int.reduceToNat, nodeC]
    refine (KW_of (call_frz rfl (frz_sl2 (r1 := (itA i).key.map byteC) (r2 := (itA i).value.map byteC) rfl rfl) rfl (callL_sub ft_sub (s75 (itA i).key (itA i).value (by simp [itA]) (by simp [itA]) _)))).2 ?_
    have ei : (⟨(itA i).key, (itA i).value, 0, 0⟩ : ItemM) = itA i := rfl
    rw [ei]
    simp only [↓vp, vq0, vq1, vq2, vq3, vr0, vr1, vr2, vr3, vr4, vr5, vr6, vr7, vr8, vr9, vr10, vr11, vr12, vr13, vr14, vr15, vr16, vr17, vr18, vr19, vr20, vr21, vr22, vr23, vr24, vr25, vr26, vr27, vr28, vr29, vr30, vr31, vr32, vr33, vr34, opS, fpS, okP, pack, nAl, allocA, shId, leaves, fillA, fillR, splice, Nat.reduceLT, Nat.reduceEqDiff, Nat.reduceLeDiff, Nat.reduceAdd, Nat.reduceSub, Nat.reduceMul, Int.reduceBEq, Int.reduceBNe, Int.reduceLT, Int.reduceLE, Int.reduceEq, reduceIte, reduceCtorEq, da, int, boolA, q0, q1, q11, g1, w1, w2, w3, d0, d1, qs, compat_ll, apt, nin]
    refine (KW_of (call_frz rfl (hz _) rfl (kw _))).2 ?_
    have hn : nodeC (withM (nodeA i) (itA i)) = [.sc (.bool true), encI (nodeA (i + 1)).items, encK []] := by
      have : ∀ i, (nodeA i).leaf = true ∧ (nodeA i).kids = [] := fun i => by
        induction i with
        | zero => exact ⟨rfl, rfl⟩
        | succ i ih => exact ih
      have h1 := this (i + 1)
      show nodeC (nodeA (i + 1)) = _
      simp only [nodeC, h1.1, h1.2]
      rfl
    simp only [↓vp, vq0, vq1, vq2, vq3, vr0, vr1, vr2, vr3, vr4, vr5, vr6, vr7, vr8, vr9, vr10, vr11, vr12, vr13, vr14, vr15, vr16, vr17, vr18, vr19, vr20, vr21, vr22, vr23, vr24, vr25, vr26, vr27, vr28, vr29, vr30, vr31, vr32, vr33, vr34, opS, fpS, okP, pack, nAl, allocA, shId, leaves, fillA, fillR, splice, Nat.reduceLT, Nat.reduceEqDiff, Nat.reduceLeDiff, Nat.reduceAdd, Nat.reduceSub, Nat.reduceMul, Int.reduceBEq, Int.reduceBNe, Int.reduceLT, Int.reduceLE, Int.reduceEq, reduceIte, reduceCtorEq, da, int, boolA, q0, q1, q11, g1, w1, w2, w3, d0, d1, qs, hn, compat_ll, apt, nin]
    refine ⟨rfl, ?_⟩
    rw [← hx_nil (hx _ _)]
    refine ih (i + 1) _ _ (encI (nodeA (i + 1)).items) (encK []) (by omega) ?_ (fun H => ?_) (fun h => by rw [h]; exact ⟨rfl, rfl⟩) ?_ ?_
    · rw [hx_get_old _ _ _ (by rw [Heap.next_set]; exact n0), Heap.get_set_self _ n0]
      rfl
    · rw [show nodeC (nodeA (i + 1)) = [boolA true, encI (nodeA (i + 1)).items, encK []] from hn]
      rfl
    all_goals simp only [↓vp, vq0, vq1, vq2, vq3, vr0, vr1, vr2, vr3, vr4, vr5, vr6, vr7, vr8, vr9, vr10, vr11, vr12, vr13, vr14, vr15, vr16, vr17, vr18, vr19, vr20, vr21, vr22, vr23, vr24, vr25, vr26, vr27, vr28, vr29, vr30, vr31, vr32, vr33, vr34, opS, fpS, okP, pack, nAl, allocA, shId, leaves, fillA, fillR, splice, Nat.reduceLT, Nat.reduceEqDiff, Nat.reduceLeDiff, Nat.reduceAdd, Nat.reduceSub, Nat.reduceMul, Int.reduceBEq, Int.reduceBNe, Int.reduceLT, Int.reduceLE, Int.reduceEq, reduceIte, reduceCtorEq, da, int, boolA, q1]
def itsA : List ItemM := [itA 0, itA 1, itA 2, itA 3, itA 4, itA 5, itA 6]
def a7 : NodeM := ⟨true, [itA 0, itA 1, itA 2, itA 3], []⟩
def b7 : NodeM := ⟨true, [itA 4, itA 5, itA 6], []⟩
def k7 : Bytes := [97, 98, 99, 100, 52]
theorem e7 : nodeA 7 = ⟨true, itsA, []⟩ := by rfl
theorem parts7 : partsM 1 (roomsM 1 (nodeA 7)).length [] (nodeA 7) = [([], a7), (k7, b7)] := by rfl
end Go.VI

set_option linter.unusedVariables false
set_option linter.unusedSimpArgs false
set_option maxRecDepth 100000
namespace Go.VI
attribute [local congr] AW_congr OW_congr DW_congr NW_congr VW_congr GW_congr PW_congr KW_congr ite_congr' GV_congr CV_congr KF_congr
def nb : NodeM := ⟨false, [], [⟨[], 2⟩, ⟨[109], 3⟩]⟩
def PS : List (Bytes × NodeM) := [([], a7), (k7, b7)]
theorem s19 (H : Heap) : callL ftX (.fn (.func 19) [] []) [] H = some (boolA true, H) := by
  refine call_p (as' := []) rfl rfl (by simp) ?_
  unfold c19 r19
  simp only [↓vp, vq0, vq1, vq2, vq3, vr0, vr1, vr2, vr3, vr4, vr5, vr6, vr7, vr8, vr9, vr10, vr11, vr12, vr13, vr14, vr15, vr16, vr17, vr18, vr19, vr20, vr21, vr22, vr23, vr24, vr25, vr26, vr27, vr28, vr29, vr30, vr31, vr32, vr33, vr34, opS, fpS, okP, pack, nAl, allocA, shId, leaves, fillA, fillR, splice, Nat.reduceLT, Nat.reduceEqDiff, Nat.reduceLeDiff, Nat.reduceAdd, Nat.reduceSub, Nat.reduceMul, Int.reduceBEq, Int.reduceBNe, Int.reduceLT, Int.reduceLE, Int.reduceEq, reduceIte, reduceCtorEq, da, int, boolA]
  rw [← hx_nil (hx _ _)]
  refine l19 (fun f' K hK q1 => ?_) 7 0 _ _ _ _ rfl rfl (fun _ => rfl) (fun h => by cases h) ?_ ?_
  · unfold c19R1
    obtain ⟨o7, l7⟩ := nodeA_ok (i := 7) (by omega)
    have n0 : 0 < K.next := Heap.get_lt hK
    rw [e7] at hK
    have q0 := fun L => get_old hK L
    have u1 : 1 ≤ 1000 := by omega
    have kP := fun K L Q => @KW_of ftX _ _ _ Q _ _ (callL_sub ft_sub (s21 1 (nodeA 7) o7 (by omega) (by rw [e7]; simp) (hx K L)))
    have hP : partsM 1 (roomsM 1 (nodeA 7)).length [] (nodeA 7) = PS := parts7
    rw [hP, e7] at kP
    have p76 := fun args K L Q => @KW_pure ftX 76 rfl args (hx K L) Q
    have p77 := fun args K L Q => @KW_pure ftX 77 rfl args (hx K L) Q
    have p32 := fun args K L Q => @KW_pure ftX 32 rfl args (hx K L) Q
    have p78 := fun args K L Q => @KW_pure ftX 78 rfl args (hx K L) Q
    have p79 := fun args K L Q => @KW_pure ftX 79 rfl args (hx K L) Q
    have p81 := fun args K L Q => @KW_pure ftX 81 rfl args (hx K L) Q
    have okn : okN ⟨true, itsA, []⟩ := by rw [← e7]; exact o7
    have okd : okB [97, 98, 99, 100, 51] := okB_lit rfl (by decide)
    have oknb : okN nb := ⟨okI_nil, by unfold MX; decide, fun x hx => by
      simp only [nb, List.mem_cons, List.not_mem_nil, or_false] at hx
      rcases hx with rfl | rfl <;> exact okB_lit rfl (by decide)⟩
    have f1 : bsM itsA [97, 98, 99, 100, 51] = 3 := by rfl
    have f2 : bsIs itsA [97, 98, 99, 100, 51] = true := by rfl
    have f3 : woutM ⟨true, itsA, []⟩ [97, 98, 99, 100, 51] = ⟨true, [itA 0, itA 1, itA 2, itA 4, itA 5, itA 6], []⟩ := by rfl
    have f4 : rightN 2 nb = true := by rfl
    have f5 : lowM 1 nb = true := by rfl
    have f6 : roomM 1 ⟨true, itsA, []⟩ = 280 := by rfl
    have f7 : fitsM 1 ⟨true, itsA, []⟩ = false := by rfl
    have f8 : joinM a7 b7 k7 = ⟨true, itsA, []⟩ := by rfl
    have f9 : sameN ⟨true, itsA, []⟩ ⟨true, itsA, []⟩ = true := by rfl
    have f10 : sideP nb.kids [122] = 1 := by rfl
    have hfind := fun H => callL_sub ft_sub (s76 ⟨true, itsA, []⟩ [97, 98, 99, 100, 51] okn (by decide) okd H)
    have hside := fun H => callL_sub ft_sub (s78 nb [122] oknb (okB_lit rfl (by decide)) H)
    have hright := fun H => callL_sub ft_sub (s79 2 nb oknb (by decide) (by decide) H)
    have hlow := fun H => callL_sub ft_sub (s81 1 nb oknb (by decide) (by decide) H)
    have hroom := fun H => callL_sub ft_sub (s80 1 ⟨true, itsA, []⟩ okn (by decide) (by decide) H)
    have hfits := fun H => callL_sub ft_sub (s26 1 ⟨true, itsA, []⟩ okn (by decide) (by decide) H)
    have hjoin := fun H => callL_sub ft_sub (s27 a7 b7 k7 (by decide) (by decide) (by decide) (by decide) (by decide) H)
    have hsame := fun H => callL_sub ft_sub (s28 ⟨true, itsA, []⟩ ⟨true, itsA, []⟩ okn okn H)
    have hswap := fun H => callL_sub ft_sub (s32 nb 1 1 [⟨[110], 4⟩] (by decide) (by decide) (by decide) (by decide) (args := [.agg (nodeC nb), int 1, int 1, encK [⟨[110], 4⟩]]) (H := H) (H1 := H) rfl)
    have hwout : ∀ H, callL ftX (.fn (.func 77) [] []) [.agg (nodeC ⟨true, itsA, []⟩), encB [97, 98, 99, 100, 51]] H = some (.tup [.agg (nodeC (woutM ⟨true, itsA, []⟩ [97, 98, 99, 100, 51])), boolA (bsIs itsA [97, 98, 99, 100, 51])], H) := fun H =>
      call_pprim (as' := [.agg (nodeC ⟨true, itsA, []⟩), encB [97, 98, 99, 100, 51]]) (p := woutP) (by unfold ftX; rw [if_neg (by decide), if_pos rfl]) rfl (woutP_eq okn (by decide) okd)
    rw [f1, f2] at hfind
    rw [f3, f2] at hwout
    rw [f4] at hright
    rw [f5] at hlow
    rw [f6] at hroom
    rw [f7] at hfits
    rw [f8] at hjoin
    rw [f9] at hsame
    rw [f10] at hside
    let n7 : AV := .agg [.sc (.bool true), encI itsA, encK []]
    have kFind : ∀ K L Q, KF ftX (.fn (.func 76) [] []) [.agg [.sc (.bool true), encI itsA, encK []], .lst [[.sc (.int .u8 97)], [.sc (.int .u8 98)], [.sc (.int .u8 99)], [.sc (.int .u8 100)], [.sc (.int .u8 51)]]] (hx K L) Q ↔ Q (.tup [.sc (.int .i64 3), .sc (.bool true)]) (hx K L) := fun K L Q => KW_of (hfind _)
    have kWout : ∀ K L Q, KF ftX (.fn (.func 77) [] []) [.agg [.sc (.bool true), encI itsA, encK []], .lst [[.sc (.int .u8 97)], [.sc (.int .u8 98)], [.sc (.int .u8 99)], [.sc (.int .u8 100)], [.sc (.int .u8 51)]]] (hx K L) Q ↔ Q (.tup [.agg [.sc (.bool true), encI [itA 0, itA 1, itA 2, itA 4, itA 5, itA 6], encK []], .sc (.bool true)]) (hx K L) := fun K L Q => KW_of (hwout _)
    have kSwap : ∀ K L Q, KF ftX (.fn (.func 32) [] []) [.agg [.sc (.bool false), .lst [], .lst [[.lst [], .sc (.int .i64 2)], [.lst [[.sc (.int .u8 109)]], .sc (.int .i64 3)]]], .sc (.int .i64 1), .sc (.int .i64 1), .lst [[.lst [[.sc (.int .u8 110)]], .sc (.int .i64 4)]]] (hx K L) Q ↔ Q (.agg [.sc (.bool false), .lst [], .lst [[.lst [], .sc (.int .i64 2)], [.lst [[.sc (.int .u8 110)]], .sc (.int .i64 4)]]]) (hx K L) := fun K L Q => KW_of (hswap _)
    have kSide : ∀ K L Q, KF ftX (.fn (.func 78) [] []) [.agg [.sc (.bool false), .lst [], .lst [[.lst [], .sc (.int .i64 2)], [.lst [[.sc (.int .u8 109)]], .sc (.int .i64 3)]]], .lst [[.sc (.int .u8 122)]]] (hx K L) Q ↔ Q (.sc (.int .i64 1)) (hx K L) := fun K L Q => KW_of (hside _)
    have kRight : ∀ K L Q, KF ftX (.fn (.func 79) [] []) [.sc (.int .i64 2), .agg [.sc (.bool false), .lst [], .lst [[.lst [], .sc (.int .i64 2)], [.lst [[.sc (.int .u8 109)]], .sc (.int .i64 3)]]]] (hx K L) Q ↔ Q (.sc (.bool true)) (hx K L) := fun K L Q => KW_of (hright _)
    have kLow : ∀ K L Q, KF ftX (.fn (.func 81) [] []) [.sc (.int .i64 1), .agg [.sc (.bool false), .lst [], .lst [[.lst [], .sc (.int .i64 2)], [.lst [[.sc (.int .u8 109)]], .sc (.int .i64 3)]]]] (hx K L) Q ↔ Q (.sc (.bool true)) (hx K L) := fun K L Q => KW_of (hlow _)
    have kRoom : ∀ K L Q, KW ftX (.fn (.func 80) [] []) [.sc (.int .i64 1), .agg [.sc (.bool true), encI itsA, encK []]] (hx K L) Q ↔ Q (.sc (.int .i64 280)) (hx K L) := fun K L Q => KW_of (hroom _)
    have kFits : ∀ K L Q, KW ftX (.fn (.func 26) [] []) [.sc (.int .i64 1), .agg [.sc (.bool true), encI itsA, encK []]] (hx K L) Q ↔ Q (.sc (.bool false)) (hx K L) := fun K L Q => KW_of (hfits _)
    have kJoin : ∀ K L Q, KW ftX (.fn (.func 27) [] []) [.agg [.sc (.bool true), encI a7.items, encK []], .agg [.sc (.bool true), encI b7.items, encK []], encB k7] (hx K L) Q ↔ Q (.agg [.sc (.bool true), encI itsA, encK []]) (hx K L) := fun K L Q => KW_of (hjoin _)
    have kSame : ∀ K L Q, KW ftX (.fn (.func 28) [] []) [.agg [.sc (.bool true), encI itsA, encK []], .agg [.sc (.bool true), encI itsA, encK []]] (hx K L) Q ↔ Q (.sc (.bool true)) (hx K L) := fun K L Q => KW_of (hsame _)
    have ip0 : ∀ H, iaddrA H none 4 (encP PS) 0 = some (.pim (PS.map partC) 0 0) := fun _ => rfl
    have ip1 : ∀ H, iaddrA H none 4 (encP PS) 1 = some (.pim (PS.map partC) 1 0) := fun _ => rfl
    have c02 : ∀ H, cellsAt H (.pim (PS.map partC) 0 2) 1 = some [encI a7.items] := fun _ => rfl
    have c12 : ∀ H, cellsAt H (.pim (PS.map partC) 1 2) 1 = some [encI b7.items] := fun _ => rfl
    have c10 : ∀ H, cellsAt H (.pim (PS.map partC) 1 0) 1 = some [encB k7] := fun _ => rfl
    have c01 : ∀ H, cellsAt H (.pim (PS.map partC) 0 1) 3 = some [.sc (.bool true), encI a7.items, encK []] := fun _ => rfl
    have c11 : ∀ H, cellsAt H (.pim (PS.map partC) 1 1) 3 = some [.sc (.bool true), encI b7.items, encK []] := fun _ => rfl
    have lP : ∀ H, lenV H 0 (encP PS) = some (.sc (.int .i64 2), H) := fun _ => rfl
    have la : ∀ H, lenV H 0 (encI a7.items) = some (.sc (.int .i64 4), H) := fun _ => rfl
    have lb : ∀ H, lenV H 0 (encI b7.items) = some (.sc (.int .i64 3), H) := fun _ => rfl
    have l6 : ∀ H, lenV H 0 (encI [itA 0, itA 1, itA 2, itA 4, itA 5, itA 6]) = some (.sc (.int .i64 6), H) := fun _ => rfl
    have ls : ∀ H a b, lenV H 0 (.lst [a, b]) = some (.sc (.int .i64 2), H) := fun _ _ _ => rfl
    have is1 : ∀ H a b c d, iaddrA H none 2 (.lst [[a, b], [c, d]]) 1 = some (.pim [[a, b], [c, d]] 1 0) := fun _ _ _ _ _ => rfl
    have cs1 : ∀ H a b c d, cellsAt H (.pim [[a, b], [c, d]] 1 1) 1 = some [d] := fun _ _ _ _ _ => rfl
    have sE : binA .eql 9 (.sc (.string (strOfNums k7))) (.sc (.string ⟨#[97, 98, 99, 100, 52]⟩)) = some (.sc (.bool true)) := by
      have h : strOfNums k7 = ⟨#[97, 98, 99, 100, 52]⟩ := by rfl
      rw [h]
      simp [binA, binOp, Op.stringOp, pureRun, ofScalar, isSc, pure]
    have pJ : pureV ftX (.fn (.func 27) [] []) [.agg [.sc (.bool true), encI a7.items, encK []], .agg [.sc (.bool true), encI b7.items, encK []], encB k7] = some (false, []) := rfl
    have sZ : sidP [(0, .sc (.int .u8 122))] = some [] := rfl
    simp only [nodeC, int, boolA] at q0 kP
    simp only [↓vp, vq0, vq1, vq2, vq3, vr0, vr1, vr2, vr3, vr4, vr5, vr6, vr7, vr8, vr9, vr10, vr11, vr12, vr13, vr14, vr15, vr16, vr17, vr18, vr19, vr20, vr21, vr22, vr23, vr24, vr25, vr26, vr27, vr28, vr29, vr30, vr31, vr32, vr33, vr34, opS, fpS, okP, pack, nAl, allocA, shId, leaves, fillA, fillR, splice, Nat.reduceLT, Nat.reduceEqDiff, Nat.reduceLeDiff, Nat.reduceAdd, Nat.reduceSub, Nat.reduceMul, Int.reduceBEq, Int.reduceBNe, Int.reduceLT, Int.reduceLE, Int.reduceEq, reduceIte, reduceCtorEq, da, int, boolA, q0, q1, kP, p76, p77, p32, p78, p79, p81, rowSz, kFind, kWout, kSwap]
    simp only [↓vp, vq0, vq1, vq2, vq3, vr0, vr1, vr2, vr3, vr4, vr5, vr6, vr7, vr8, vr9, vr10, vr11, vr12, vr13, vr14, vr15, vr16, vr17, vr18, vr19, vr20, vr21, vr22, vr23, vr24, vr25, vr26, vr27, vr28, vr29, vr30, vr31, vr32, vr33, vr34, opS, fpS, okP, pack, nAl, allocA, shId, leaves, fillA, fillR, splice, Nat.reduceLT, Nat.reduceEqDiff, Nat.reduceLeDiff, Nat.reduceAdd, Nat.reduceSub, Nat.reduceMul, Int.reduceBEq, Int.reduceBNe, Int.reduceLT, Int.reduceLE, Int.reduceEq, reduceIte, reduceCtorEq, da, int, boolA, RetP_go, resT, resC, resN, retV1, retV2, retV3, retV0, frzFZ, takeM, Option.some.injEq, q0, q1, kP, p78, p79, p81, rowSz, kSide, kRight, kLow, kRoom, kFits, kJoin, kSame, ip0, ip1, c02, c12, c10, c01, c11, lP, la, lb, l6, ls, is1, cs1, bytesOf_encB, sE, pJ, sZ]
  · simp only [↓vp, vq0, vq1, vq2, vq3, vr0, vr1, vr2, vr3, vr4, vr5, vr6, vr7, vr8, vr9, vr10, vr11, vr12, vr13, vr14, vr15, vr16, vr17, vr18, vr19, vr20, vr21, vr22, vr23, vr24, vr25, vr26, vr27, vr28, vr29, vr30, vr31, vr32, vr33, vr34, opS, fpS, okP, pack, nAl, allocA, shId, leaves, fillA, fillR, splice, Nat.reduceLT, Nat.reduceEqDiff, Nat.reduceLeDiff, Nat.reduceAdd, Nat.reduceSub, Nat.reduceMul, Int.reduceBEq, Int.reduceBNe, Int.reduceLT, Int.reduceLE, Int.reduceEq, reduceIte, reduceCtorEq, da, int, boolA]
  · simp only [↓vp, vq0, vq1, vq2, vq3, vr0, vr1, vr2, vr3, vr4, vr5, vr6, vr7, vr8, vr9, vr10, vr11, vr12, vr13, vr14, vr15, vr16, vr17, vr18, vr19, vr20, vr21, vr22, vr23, vr24, vr25, vr26, vr27, vr28, vr29, vr30, vr31, vr32, vr33, vr34, opS, fpS, okP, pack, nAl, allocA, shId, leaves, fillA, fillR, splice, Nat.reduceLT, Nat.reduceEqDiff, Nat.reduceLeDiff, Nat.reduceAdd, Nat.reduceSub, Nat.reduceMul, Int.reduceBEq, Int.reduceBNe, Int.reduceLT, Int.reduceLE, Int.reduceEq, reduceIte, reduceCtorEq, da, int, boolA, Int.natCast_zero]
end Go.VI

set_option linter.unusedVariables false
set_option linter.unusedSimpArgs false
set_option maxRecDepth 100000
namespace Go.VI
/-- A small node, as its kind has it. -/
structure Good (n : NodeM) : Prop where
  ok : okN n
  i : n.items.length ≤ 60
  k : n.kids.length ≤ 60
  p : pureM n
  ki : ∀ x ∈ n.items, x.key.length ≤ 60
  kk : ∀ x ∈ n.kids, x.key.length ≤ 60
theorem noKey_key {l : List KidM} {m : Nat} (h : ∀ x ∈ l, x.key.length ≤ m) : ∀ x ∈ noKey l, x.key.length ≤ m := fun x hx => by
  cases l with
  | nil => cases hx
  | cons y r =>
    rcases List.mem_cons.1 hx with rfl | hx
    · simp
    · exact h x (List.mem_cons_of_mem _ hx)
theorem Good.cut {n : NodeM} (h : Good n) (k : Nat) : Good (cutM n k).1 ∧ Good (cutM n k).2.1 ∧ okB (cutM n k).2.2 ∧ (cutM n k).2.2.length ≤ 60 := by
  obtain ⟨o1, o2, o3⟩ := okN_cut h.ok k
  obtain ⟨p1, p2⟩ := cut_pure n k
  have hi := h.i
  have hk := h.k
  refine ⟨⟨o1, ?_, ?_, p1, ?_, ?_⟩, ⟨o2, ?_, ?_, p2, ?_, ?_⟩, o3, ?_⟩ <;> (unfold cutM; split)
  · simp; omega
  · simp
  · simp
  · simp; omega
  · exact fun x hx => h.ki x (List.mem_of_mem_take hx)
  · exact fun x hx => by cases hx
  · exact fun x hx => by cases hx
  · exact fun x hx => h.kk x (List.mem_of_mem_take hx)
  · simp; omega
  · simp
  · simp
  · simp [noKey_len]; omega
  · exact fun x hx => h.ki x (List.mem_of_mem_drop hx)
  · exact fun x hx => by cases hx
  · exact fun x hx => by cases hx
  · exact noKey_key fun x hx => h.kk x (List.mem_of_mem_drop hx)
  · show (((n.items[k]?).map (·.key)).getD []).length ≤ 60
    cases hx : n.items[k]? with
    | none => simp
    | some x => exact h.ki x (List.mem_of_getElem? hx)
  · show (((n.kids[k]?).map (·.key)).getD []).length ≤ 60
    cases hx : n.kids[k]? with
    | none => simp
    | some x => exact h.kk x (List.mem_of_getElem? hx)
theorem parts_good (g : Int) : ∀ (d : Nat) (key : Bytes) (n : NodeM), Good n → okB key → key.length ≤ 60 → ∀ p ∈ partsM g d key n, Good p.2 ∧ okB p.1 ∧ p.1.length ≤ 60
  | 0, key, n, h, hk, hl, p, hp => by
    simp only [partsM, List.mem_singleton] at hp
    subst hp
    exact ⟨h, hk, hl⟩
  | d + 1, key, n, h, hk, hl, p, hp => by
    unfold partsM at hp
    split at hp
    · simp only [List.mem_singleton] at hp
      subst hp
      exact ⟨h, hk, hl⟩
    · obtain ⟨h1, h2, h3, h4⟩ := h.cut (atM g n)
      rcases List.mem_append.1 hp with hp | hp
      · exact parts_good g d _ _ h1 hk hl p hp
      · exact parts_good g d _ _ h2 h3 h4 p hp
theorem atP {H : Heap} {l : List (Bytes × NodeM)} {i : Nat} (h : i < l.length) : iaddrA H none 4 (encP l) (i : Int) = some (.pim (l.map partC) i 0) := iaddr_map h (fun _ => rfl)
theorem cP {H : Heap} {l : List (Bytes × NodeM)} {i off n : Nat} (h : i < l.length) : cellsAt H (.pim (l.map partC) i off) n = if off + n ≤ 4 then some (((partC l[i]).drop off).take n) else none := cells_map h
theorem lenP {H : Heap} (l : List (Bytes × NodeM)) : lenV H 0 (encP l) = some (.sc (.int .i64 (l.length : Int)), H) := by simp [lenV, lenOfA, encP]
end Go.VI
