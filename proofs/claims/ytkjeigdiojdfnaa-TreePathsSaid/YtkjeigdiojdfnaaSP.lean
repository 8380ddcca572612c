/- VI, part SP: All: a kid's place, form. -/
import Derived.Test.YtkjeigdiojdfnaaSO
set_option linter.unusedVariables false
set_option linter.unusedSimpArgs false
set_option maxRecDepth 100000
namespace Go.VI
attribute [local congr] AW_congr OW_congr DW_congr NW_congr VW_congr GW_congr PW_congr KW_congr ite_congr' GV_congr CV_congr

def kidM (p : PlaceM) (n : NodeM) (k : Nat) : PlaceM :=
  ⟨((n.kids[k]?).map (·.ref)).getD 0, p.deep + 1, if 0 < k then true else p.li, if 0 < k then ((n.kids[k]?).map (·.key)).getD [] else p.lk,
    if k + 1 < n.kids.length then true else p.hi, if k + 1 < n.kids.length then ((n.kids[k + 1]?).map (·.key)).getD [] else p.hk⟩
def placeE (p : PlaceM) : List AV := placeC p (encB p.lk) (encB p.hk)
theorem zp (n : Nat) (H : Heap) (p : PlaceM) : frz.frzL (n + 8) H (placeE p) = some (placeE p, H) := rfl
theorem s56 {p : PlaceM} {a b : AV} (ha : NB a p.lk) (hb : NB b p.hk) {n : NodeM} (hn : okN n) (hd : 0 ≤ p.deep ∧ p.deep ≤ 100) {k : Nat} (hk : k < n.kids.length) (H : Heap) :
    callL ft (.fn (.func 56) [] []) [.agg (placeC p a b), .agg (nodeC n), int k] H = some (.agg (placeE (kidM p n k)), H) := by
  refine call_p (as' := [.agg (placeE p), .agg (nodeC n), int k]) rfl (by
    unfold placeE
    rcases ha with rfl | ⟨rfl, h⟩ <;> rcases hb with rfl | ⟨rfl, h'⟩ <;> first | rfl | (rw [h, h']; rfl) | (rw [h]; rfl) | (rw [h']; rfl)) (by simp) ?_
  have hi := hn.k.n
  unfold MX at hi
  have w1 := wrap_succ (show k < 9223372036854775807 by omega)
  have w2 : IntKind.i64.wrap (p.deep + 1) = p.deep + 1 := wrap_i64 (by omega)
  have c1 : ((((k + 1 : Nat) : Int) < n.kids.length)) = (k + 1 < n.kids.length) := propext (by omega)
  unfold c56 r56 kidM placeE placeC
  simp only [List.getElem?_eq_getElem hk, Option.map_some, Option.getD_some]
  by_cases h0 : 0 < k
  · have g0 : ((0 : Int) < (k : Int)) = True := eq_true (by omega)
    by_cases h1 : k + 1 < n.kids.length
    · simp only [↓vp, vq0, vq1, vq2, vq3, vr0, vr1, vr2, vr3, vr4, vr5, vr6, vr7, vr8, vr9, vr10, vr11, vr12, vr13, vr14, vr15, vr16, vr17, vr18, vr19, vr20, vr21, vr22, vr23, vr24, vr25, vr26, vr27, vr28, vr29, vr30, vr31, vr32, vr33, vr34, opS, fpS, okP, pack, nAl, allocA, shId, leaves, fillA, fillR, splice, Nat.reduceLT, Nat.reduceEqDiff, Nat.reduceLeDiff, Nat.reduceAdd, Nat.reduceSub, Nat.reduceMul, Int.reduceBEq, Int.reduceBNe, Int.reduceLT, Int.reduceLE, Int.reduceEq, reduceIte, reduceCtorEq, da, int, boolA, RetP_go, resT, resC, resN, retV1, retV2, retV3, retV0, frzFZ, takeM, Option.some.injEq, g0, h0, h1, c1, w1, w2, atK hk, cK hk, atK h1, cK h1, List.getElem?_eq_getElem h1, Option.getD_some]
      rfl
    · simp only [↓vp, vq0, vq1, vq2, vq3, vr0, vr1, vr2, vr3, vr4, vr5, vr6, vr7, vr8, vr9, vr10, vr11, vr12, vr13, vr14, vr15, vr16, vr17, vr18, vr19, vr20, vr21, vr22, vr23, vr24, vr25, vr26, vr27, vr28, vr29, vr30, vr31, vr32, vr33, vr34, opS, fpS, okP, pack, nAl, allocA, shId, leaves, fillA, fillR, splice, Nat.reduceLT, Nat.reduceEqDiff, Nat.reduceLeDiff, Nat.reduceAdd, Nat.reduceSub, Nat.reduceMul, Int.reduceBEq, Int.reduceBNe, Int.reduceLT, Int.reduceLE, Int.reduceEq, reduceIte, reduceCtorEq, da, int, boolA, RetP_go, resT, resC, resN, retV1, retV2, retV3, retV0, frzFZ, takeM, Option.some.injEq, g0, h0, h1, c1, w1, w2, atK hk, cK hk]
      rfl
  · have g0 : ((0 : Int) < (k : Int)) = False := eq_false (by omega)
    by_cases h1 : k + 1 < n.kids.length
    · simp only [↓vp, vq0, vq1, vq2, vq3, vr0, vr1, vr2, vr3, vr4, vr5, vr6, vr7, vr8, vr9, vr10, vr11, vr12, vr13, vr14, vr15, vr16, vr17, vr18, vr19, vr20, vr21, vr22, vr23, vr24, vr25, vr26, vr27, vr28, vr29, vr30, vr31, vr32, vr33, vr34, opS, fpS, okP, pack, nAl, allocA, shId, leaves, fillA, fillR, splice, Nat.reduceLT, Nat.reduceEqDiff, Nat.reduceLeDiff, Nat.reduceAdd, Nat.reduceSub, Nat.reduceMul, Int.reduceBEq, Int.reduceBNe, Int.reduceLT, Int.reduceLE, Int.reduceEq, reduceIte, reduceCtorEq, da, int, boolA, RetP_go, resT, resC, resN, retV1, retV2, retV3, retV0, frzFZ, takeM, Option.some.injEq, g0, h0, h1, c1, w1, w2, atK hk, cK hk, atK h1, cK h1, List.getElem?_eq_getElem h1, Option.getD_some]
      rfl
    · simp only [↓vp, vq0, vq1, vq2, vq3, vr0, vr1, vr2, vr3, vr4, vr5, vr6, vr7, vr8, vr9, vr10, vr11, vr12, vr13, vr14, vr15, vr16, vr17, vr18, vr19, vr20, vr21, vr22, vr23, vr24, vr25, vr26, vr27, vr28, vr29, vr30, vr31, vr32, vr33, vr34, opS, fpS, okP, pack, nAl, allocA, shId, leaves, fillA, fillR, splice, Nat.reduceLT, Nat.reduceEqDiff, Nat.reduceLeDiff, Nat.reduceAdd, Nat.reduceSub, Nat.reduceMul, Int.reduceBEq, Int.reduceBNe, Int.reduceLT, Int.reduceLE, Int.reduceEq, reduceIte, reduceCtorEq, da, int, boolA, RetP_go, resT, resC, resN, retV1, retV2, retV3, retV0, frzFZ, takeM, Option.some.injEq, g0, h0, h1, c1, w1, w2, atK hk, cK hk]
      rfl
theorem k56 {p : PlaceM} {a b : AV} (ha : NB a p.lk) (hb : NB b p.hk) {n : NodeM} (hn : okN n) (hd : 0 ≤ p.deep ∧ p.deep ≤ 100) {k : Nat} (hk : k < n.kids.length) {K : Heap} {L : List Blk} {Q : AV → Heap → Prop} :
    KW ft (.fn (.func 56) [] []) [.agg (placeC p a b), .agg (nodeC n), int k] (hx K L) Q ↔ Q (.agg (placeE (kidM p n k))) (hx K L) := KW_of (s56 ha hb hn hd hk _)

theorem RetO_go {rs : List ARes} {R : AV} {H1 : Heap} {x : AExit} {n : Nat} {f : Nat → AV} {H : Heap} : RetO rs R H1 x (mkE n f) H ↔ leaves x = true ∧ (rs.mapM (resOf H (mkE n f))).map retV = some R ∧ H = H1 := Iff.rfl
/-! ### form -/
theorem lenY (H : Heap) (l : List Bytes) : lenV H 0 (encKs l) = some (.sc (.int .i64 (l.length : Int)), H) := by simp [lenV, lenOfA, encKs]
theorem atY {H : Heap} {l : List Bytes} {i : Nat} (h : i < l.length) : iaddrA H none 1 (encKs l) (i : Int) = some (.pim (l.map keyC) i 0) := iaddr_map h len_keyC
theorem cY {H : Heap} {l : List Bytes} {i off n : Nat} (h : i < l.length) : cellsAt H (.pim (l.map keyC) i off) n = if off + n ≤ 1 then some (((keyC l[i]).drop off).take n) else none := cells_map h
theorem y_0 (b : Bytes) : (keyC b).take 1 = [encB b] := rfl
/-- Are keys between a place's, and do they rise? -/
def ksM (p : PlaceM) : Option Bytes → List Bytes → Bool
  | _, [] => true
  | prev, x :: l => bndM p x && (prev.elim true fun y => decide (cmpB y x < 0)) && ksM p (some x) l
theorem l68 {p : PlaceM} {a b : AV} (ha : NB a p.lk) (hb : NB b p.hk) (hp : okP_ p) (l : List Bytes) (hl : ∀ x ∈ l, okB x) (hi : l.length < MX) (R : Bool) {L : List Blk} {H : Heap} (hL : L[0]? = some (.box false (placeC p a b)))
   {Q : AExit → Env → Heap → Prop}
   (hex : ∀ f', R = true → Q (.exit 0) (mkE 106 f') (hx H L)) (hret : ∀ f', R = false → f' 6 = boolA false → Q .ret (mkE 106 f') (hx H L)) :
   ∀ (d i : Nat) (f : Nat → AV), i + d = l.length → R = ksM p (if i = 0 then none else l[i - 1]?) (l.drop i) → f 4 = .ptr H.next 0 0 → f 8 = encKs l → f 80 = encKs l → f 81 = int l.length → f 82 = int i →
    AW ft (.loop c68L0) (mkE 106 f) (hx H L) Q := by
  intro d
  unfold MX at hi
  induction d with
  | zero =>
    intro i f hd hR h4 h8 h80 h81 h82
    have g : ((i : Int) < l.length) = False := eq_false (by omega)
    rw [AW_loop]
    unfold c68L0
    simp only [↓vp, vq0, vq1, vq2, vq3, vr0, vr1, vr2, vr3, vr4, vr5, vr6, vr7, vr8, vr9, vr10, vr11, vr12, vr13, vr14, vr15, vr16, vr17, vr18, vr19, vr20, vr21, vr22, vr23, vr24, vr25, vr26, vr27, vr28, vr29, vr30, vr31, vr32, vr33, vr34, opS, fpS, okP, pack, nAl, allocA, shId, leaves, fillA, fillR, splice, Nat.reduceLT, Nat.reduceEqDiff, Nat.reduceLeDiff, Nat.reduceAdd, Nat.reduceSub, Nat.reduceMul, Int.reduceBEq, Int.reduceBNe, Int.reduceLT, Int.reduceLE, Int.reduceEq, reduceIte, reduceCtorEq, da, int, boolA, h81, h82, g]
    refine hex _ ?_
    rw [hR, List.drop_eq_nil_of_le (by omega)]
    cases (if i = 0 then none else l[i - 1]?) <;> rfl
  | succ d ih =>
    intro i f hd hR h4 h8 h80 h81 h82
    have g : ((i : Int) < l.length) = True := eq_true (by omega)
    have gi : i < l.length := by omega
    have w1 := wrap_succ (show i < 9223372036854775807 by omega)
    have hx_ := hl _ (List.getElem_mem gi)
    have x71 := fun K L Q => k71 ha hb hp hx_ (K := K) (L := L) (Q := Q)
    have c6 : (placeC p a b).take 6 = placeC p a b := rfl
    have cl : (placeC p a b).length = 6 := rfl
    rw [List.drop_eq_getElem_cons gi, ksM] at hR
    rw [AW_loop]
    unfold c68L0
    cases e1 : bndM p l[i] with
    | false =>
      rw [e1] at hR
      simp only [↓vp, vq0, vq1, vq2, vq3, vr0, vr1, vr2, vr3, vr4, vr5, vr6, vr7, vr8, vr9, vr10, vr11, vr12, vr13, vr14, vr15, vr16, vr17, vr18, vr19, vr20, vr21, vr22, vr23, vr24, vr25, vr26, vr27, vr28, vr29, vr30, vr31, vr32, vr33, vr34, opS, fpS, okP, pack, nAl, allocA, shId, leaves, fillA, fillR, splice, Nat.reduceLT, Nat.reduceEqDiff, Nat.reduceLeDiff, Nat.reduceAdd, Nat.reduceSub, Nat.reduceMul, Int.reduceBEq, Int.reduceBNe, Int.reduceLT, Int.reduceLE, Int.reduceEq, reduceIte, reduceCtorEq, da, int, boolA, h4, h8, h80, h81, h82, g, atY gi, cY gi, y_0, hL, c6, cl, x71, e1]
      refine hret _ (by simpa using hR) ?_
      simp only [↓vp, vq0, vq1, vq2, vq3, vr0, vr1, vr2, vr3, vr4, vr5, vr6, vr7, vr8, vr9, vr10, vr11, vr12, vr13, vr14, vr15, vr16, vr17, vr18, vr19, vr20, vr21, vr22, vr23, vr24, vr25, vr26, vr27, vr28, vr29, vr30, vr31, vr32, vr33, vr34, opS, fpS, okP, pack, nAl, allocA, shId, leaves, fillA, fillR, splice, Nat.reduceLT, Nat.reduceEqDiff, Nat.reduceLeDiff, Nat.reduceAdd, Nat.reduceSub, Nat.reduceMul, Int.reduceBEq, Int.reduceBNe, Int.reduceLT, Int.reduceLE, Int.reduceEq, reduceIte, reduceCtorEq, da, int, boolA]
    | true =>
      rw [e1] at hR
      cases i with
      | zero =>
        have g0 : ((0 : Int) < ((0 : Nat) : Int)) = False := by simp
        simp only [↓vp, vq0, vq1, vq2, vq3, vr0, vr1, vr2, vr3, vr4, vr5, vr6, vr7, vr8, vr9, vr10, vr11, vr12, vr13, vr14, vr15, vr16, vr17, vr18, vr19, vr20, vr21, vr22, vr23, vr24, vr25, vr26, vr27, vr28, vr29, vr30, vr31, vr32, vr33, vr34, opS, fpS, okP, pack, nAl, allocA, shId, leaves, fillA, fillR, splice, Nat.reduceLT, Nat.reduceEqDiff, Nat.reduceLeDiff, Nat.reduceAdd, Nat.reduceSub, Nat.reduceMul, Int.reduceBEq, Int.reduceBNe, Int.reduceLT, Int.reduceLE, Int.reduceEq, reduceIte, reduceCtorEq, da, int, boolA, h4, h8, h80, h81, h82, g, g0, atY gi, cY gi, y_0, hL, c6, cl, x71, e1, w1]
        refine ih 1 _ (by omega) ?_ ?_ ?_ ?_ ?_ ?_
        · rw [hR]
          simp [List.getElem?_eq_getElem gi]
        all_goals simp only [↓vp, vq0, vq1, vq2, vq3, vr0, vr1, vr2, vr3, vr4, vr5, vr6, vr7, vr8, vr9, vr10, vr11, vr12, vr13, vr14, vr15, vr16, vr17, vr18, vr19, vr20, vr21, vr22, vr23, vr24, vr25, vr26, vr27, vr28, vr29, vr30, vr31, vr32, vr33, vr34, opS, fpS, okP, pack, nAl, allocA, shId, leaves, fillA, fillR, splice, Nat.reduceLT, Nat.reduceEqDiff, Nat.reduceLeDiff, Nat.reduceAdd, Nat.reduceSub, Nat.reduceMul, Int.reduceBEq, Int.reduceBNe, Int.reduceLT, Int.reduceLE, Int.reduceEq, reduceIte, reduceCtorEq, da, int, boolA, h4, h8, h80, h81]
      | succ j =>
        have g0 : ((0 : Int) < ((j + 1 : Nat) : Int)) = True := eq_true (by omega)
        have gj : j < l.length := by omega
        have w0 := wrap_pred (show j < 9223372036854775807 by omega)
        have hy_ := hl _ (List.getElem_mem gj)
        simp only [Nat.add_sub_cancel, Nat.add_one_ne_zero, if_false, List.getElem?_eq_getElem gj, Option.elim_some, Bool.true_and] at hR
        cases e2 : decide (cmpB l[j] l[j + 1] < 0) with
        | false =>
          have e2' : ¬ cmpB l[j] l[j + 1] < 0 := by simpa using e2
          have e3 : (0 ≤ cmpB l[j] l[j + 1]) = True := eq_true (by omega)
          rw [e2] at hR
          simp only [↓vp, vq0, vq1, vq2, vq3, vr0, vr1, vr2, vr3, vr4, vr5, vr6, vr7, vr8, vr9, vr10, vr11, vr12, vr13, vr14, vr15, vr16, vr17, vr18, vr19, vr20, vr21, vr22, vr23, vr24, vr25, vr26, vr27, vr28, vr29, vr30, vr31, vr32, vr33, vr34, opS, fpS, okP, pack, nAl, allocA, shId, leaves, fillA, fillR, splice, Nat.reduceLT, Nat.reduceEqDiff, Nat.reduceLeDiff, Nat.reduceAdd, Nat.reduceSub, Nat.reduceMul, Int.reduceBEq, Int.reduceBNe, Int.reduceLT, Int.reduceLE, Int.reduceEq, reduceIte, reduceCtorEq, da, int, boolA, h4, h8, h80, h81, h82, g, g0, atY gi, cY gi, atY gj, cY gj, y_0, hL, c6, cl, x71, e1, w0, k40, hx_, hy_, e3]
          refine hret _ (by simpa using hR) ?_
          simp only [↓vp, vq0, vq1, vq2, vq3, vr0, vr1, vr2, vr3, vr4, vr5, vr6, vr7, vr8, vr9, vr10, vr11, vr12, vr13, vr14, vr15, vr16, vr17, vr18, vr19, vr20, vr21, vr22, vr23, vr24, vr25, vr26, vr27, vr28, vr29, vr30, vr31, vr32, vr33, vr34, opS, fpS, okP, pack, nAl, allocA, shId, leaves, fillA, fillR, splice, Nat.reduceLT, Nat.reduceEqDiff, Nat.reduceLeDiff, Nat.reduceAdd, Nat.reduceSub, Nat.reduceMul, Int.reduceBEq, Int.reduceBNe, Int.reduceLT, Int.reduceLE, Int.reduceEq, reduceIte, reduceCtorEq, da, int, boolA]
        | true =>
          have e2' : cmpB l[j] l[j + 1] < 0 := by simpa using e2
          have e3 : (0 ≤ cmpB l[j] l[j + 1]) = False := eq_false (by omega)
          rw [e2] at hR
          simp only [↓vp, vq0, vq1, vq2, vq3, vr0, vr1, vr2, vr3, vr4, vr5, vr6, vr7, vr8, vr9, vr10, vr11, vr12, vr13, vr14, vr15, vr16, vr17, vr18, vr19, vr20, vr21, vr22, vr23, vr24, vr25, vr26, vr27, vr28, vr29, vr30, vr31, vr32, vr33, vr34, opS, fpS, okP, pack, nAl, allocA, shId, leaves, fillA, fillR, splice, Nat.reduceLT, Nat.reduceEqDiff, Nat.reduceLeDiff, Nat.reduceAdd, Nat.reduceSub, Nat.reduceMul, Int.reduceBEq, Int.reduceBNe, Int.reduceLT, Int.reduceLE, Int.reduceEq, reduceIte, reduceCtorEq, da, int, boolA, h4, h8, h80, h81, h82, g, g0, atY gi, cY gi, atY gj, cY gj, y_0, hL, c6, cl, x71, e1, w0, w1, k40, hx_, hy_, e3]
          refine ih (j + 1 + 1) _ (by omega) ?_ ?_ ?_ ?_ ?_ ?_
          · rw [hR]
            simp [List.getElem?_eq_getElem gi]
          all_goals simp only [↓vp, vq0, vq1, vq2, vq3, vr0, vr1, vr2, vr3, vr4, vr5, vr6, vr7, vr8, vr9, vr10, vr11, vr12, vr13, vr14, vr15, vr16, vr17, vr18, vr19, vr20, vr21, vr22, vr23, vr24, vr25, vr26, vr27, vr28, vr29, vr30, vr31, vr32, vr33, vr34, opS, fpS, okP, pack, nAl, allocA, shId, leaves, fillA, fillR, splice, Nat.reduceLT, Nat.reduceEqDiff, Nat.reduceLeDiff, Nat.reduceAdd, Nat.reduceSub, Nat.reduceMul, Int.reduceBEq, Int.reduceBNe, Int.reduceLT, Int.reduceLE, Int.reduceEq, reduceIte, reduceCtorEq, da, int, boolA, h4, h8, h80, h81]
/-- May a node stand at its place? -/
def formM (depth : Int) (p : PlaceM) (n : NodeM) : Bool :=
  if n.leaf then
    !(decide (0 < (n.kids.length : Int))) && (!((n.items.length : Int) == 0) || p.deep == 1) && !(decide (0 < depth) && depth != p.deep) && ksM p none (keysM n)
  else !(decide (0 < (n.items.length : Int))) && !(decide ((n.kids.length : Int) < 2)) && ksM p none (keysM n)
theorem ok_keys {n : NodeM} (hn : okN n) : ∀ x ∈ keysM n, okB x := fun x hx => by
  rcases List.mem_append.1 hx with hx | hx
  · obtain ⟨y, hy, rfl⟩ := List.mem_map.1 hx
    exact (hn.i.h y hy).k
  · obtain ⟨y, hy, rfl⟩ := List.mem_map.1 hx
    exact hn.k.h y (List.mem_of_mem_drop hy)
theorem s68 {p : PlaceM} {a b : AV} (ha : NB a p.lk) (hb : NB b p.hk) (hp : okP_ p) {n : NodeM} (hn : okN n) (h1 : n.items.length ≤ 1000) (h2 : n.kids.length ≤ 1000) {H : Heap} {wid : Nat} {w0 w1 w2 w4 : AV} {depth : Int}
   (hw : H.get wid = some (.box false [w0, w1, w2, int depth, w4])) :
    callL ft (.fn (.func 68) [] []) [.ptr wid 0 0, .agg (placeC p a b), .agg (nodeC n)] H = some (boolA (formM depth p n), hx H [.box false (placeC p a b), .box false (nodeC n)]) := by
  refine call_o rfl (by simp) ?_
  have cl : (placeC p a b).length = 6 := rfl
  have ca : oneAll (placeC p a b) = true := by
    show (true && (true && (true && (a.one && (true && (b.one && true)))))) = true
    rw [ha.one, hb.one]; rfl
  have c1 : ((placeC p a b).drop 1).take 1 = [int p.deep] := rfl
  have ow := get_old hw
  have key : formM depth p n = ksM p none (keysM n) → ∀ (f : Nat → AV), f 4 = .ptr H.next 0 0 → f 8 = encKs (keysM n) → f 80 = encKs (keysM n) → f 81 = int (keysM n).length → f 82 = int 0 →
     AW ft (.loop c68L0) (mkE 106 f) (hx H [.box false (placeC p a b), .box false (nodeC n)]) (blockA 0 (thenA (fun e H' => AW ft c68R1 e H' (RetO r68 (boolA (formM depth p n)) (hx H [.box false (placeC p a b), .box false (nodeC n)]))) (RetO r68 (boolA (formM depth p n)) (hx H [.box false (placeC p a b), .box false (nodeC n)])))) := by
    intro hf f h4 h8 h80 h81 h82
    refine l68 ha hb hp (keysM n) (ok_keys hn) (by simp [keysM, MX]; omega) (formM depth p n) rfl (fun f' hR => ?_) (fun f' hR h6 => ?_) (keysM n).length 0 f (by simp) (by simpa using hf) h4 h8 h80 h81 h82
    · unfold c68R1 r68
      simp only [↓vp, vq0, vq1, vq2, vq3, vr0, vr1, vr2, vr3, vr4, vr5, vr6, vr7, vr8, vr9, vr10, vr11, vr12, vr13, vr14, vr15, vr16, vr17, vr18, vr19, vr20, vr21, vr22, vr23, vr24, vr25, vr26, vr27, vr28, vr29, vr30, vr31, vr32, vr33, vr34, opS, fpS, okP, pack, nAl, allocA, shId, leaves, fillA, fillR, splice, Nat.reduceLT, Nat.reduceEqDiff, Nat.reduceLeDiff, Nat.reduceAdd, Nat.reduceSub, Nat.reduceMul, Int.reduceBEq, Int.reduceBNe, Int.reduceLT, Int.reduceLE, Int.reduceEq, reduceIte, reduceCtorEq, da, int, boolA, hR]
      exact ⟨rfl, rfl, rfl⟩
    · unfold r68
      simp only [↓vp, vq0, vq1, vq2, vq3, vr0, vr1, vr2, vr3, vr4, vr5, vr6, vr7, vr8, vr9, vr10, vr11, vr12, vr13, vr14, vr15, vr16, vr17, vr18, vr19, vr20, vr21, vr22, vr23, vr24, vr25, vr26, vr27, vr28, vr29, vr30, vr31, vr32, vr33, vr34, opS, fpS, okP, pack, nAl, allocA, shId, leaves, fillA, fillR, splice, Nat.reduceLT, Nat.reduceEqDiff, Nat.reduceLeDiff, Nat.reduceAdd, Nat.reduceSub, Nat.reduceMul, Int.reduceBEq, Int.reduceBNe, Int.reduceLT, Int.reduceLE, Int.reduceEq, reduceIte, reduceCtorEq, da, int, boolA, hR]
      refine ⟨rfl, ?_, rfl⟩
      unfold resultsA
      rw [resT, resN, if_pos (by decide), h6]
      rfl
  have n_take3' : (nodeC n).take 3 = nodeC n := rfl
  unfold c68 r68
  have fin : formM depth p n = ksM p none (keysM n) → True := fun _ => trivial
  cases e1 : n.leaf with
  | true =>
    cases e2 : decide ((0 : Int) < n.kids.length) with
    | true =>
      have hf : formM depth p n = false := by unfold formM; simp only [e1, e2]; simp
      simp only [↓vp, vq0, vq1, vq2, vq3, vr0, vr1, vr2, vr3, vr4, vr5, vr6, vr7, vr8, vr9, vr10, vr11, vr12, vr13, vr14, vr15, vr16, vr17, vr18, vr19, vr20, vr21, vr22, vr23, vr24, vr25, vr26, vr27, vr28, vr29, vr30, vr31, vr32, vr33, vr34, opS, fpS, okP, pack, nAl, allocA, shId, leaves, fillA, fillR, splice, Nat.reduceLT, Nat.reduceEqDiff, Nat.reduceLeDiff, Nat.reduceAdd, Nat.reduceSub, Nat.reduceMul, Int.reduceBEq, Int.reduceBNe, Int.reduceLT, Int.reduceLE, Int.reduceEq, reduceIte, reduceCtorEq, da, int, boolA, RetO_go, resT, resC, resN, retV1, retV2, retV3, retV0, Option.some.injEq, cl, ca, c1, ow, hf, e1, e2]
    | false =>
      cases e3 : ((n.items.length : Int) == 0) with
      | true =>
        cases e4 : (p.deep == 1) with
        | true =>
          cases e5 : decide ((0 : Int) < depth) with
          | true =>
            cases e6 : (depth != p.deep) with
            | true =>
              have hf : formM depth p n = false := by unfold formM; simp only [e1, e2, e3, e4, e5, e6]; simp
              simp only [↓vp, vq0, vq1, vq2, vq3, vr0, vr1, vr2, vr3, vr4, vr5, vr6, vr7, vr8, vr9, vr10, vr11, vr12, vr13, vr14, vr15, vr16, vr17, vr18, vr19, vr20, vr21, vr22, vr23, vr24, vr25, vr26, vr27, vr28, vr29, vr30, vr31, vr32, vr33, vr34, opS, fpS, okP, pack, nAl, allocA, shId, leaves, fillA, fillR, splice, Nat.reduceLT, Nat.reduceEqDiff, Nat.reduceLeDiff, Nat.reduceAdd, Nat.reduceSub, Nat.reduceMul, Int.reduceBEq, Int.reduceBNe, Int.reduceLT, Int.reduceLE, Int.reduceEq, reduceIte, reduceCtorEq, da, int, boolA, RetO_go, resT, resC, resN, retV1, retV2, retV3, retV0, Option.some.injEq, cl, ca, c1, ow, hf, e1, e2, e3, e4, e5, e6]
            | false =>
              have hf : formM depth p n = ksM p none (keysM n) := by unfold formM; simp only [e1, e2, e3, e4, e5, e6]; simp
              simp only [↓vp, vq0, vq1, vq2, vq3, vr0, vr1, vr2, vr3, vr4, vr5, vr6, vr7, vr8, vr9, vr10, vr11, vr12, vr13, vr14, vr15, vr16, vr17, vr18, vr19, vr20, vr21, vr22, vr23, vr24, vr25, vr26, vr27, vr28, vr29, vr30, vr31, vr32, vr33, vr34, opS, fpS, okP, pack, nAl, allocA, shId, leaves, fillA, fillR, splice, Nat.reduceLT, Nat.reduceEqDiff, Nat.reduceLeDiff, Nat.reduceAdd, Nat.reduceSub, Nat.reduceMul, Int.reduceBEq, Int.reduceBNe, Int.reduceLT, Int.reduceLE, Int.reduceEq, reduceIte, reduceCtorEq, da, int, boolA, cl, ca, c1, ow, n_take3', k70, h1, h2, lenY, e1, e2, e3, e4, e5, e6]
              refine key hf _ ?_ ?_ ?_ ?_ ?_ <;> (try simp only [↓vp, vq0, vq1, vq2, vq3, vr0, vr1, vr2, vr3, vr4, vr5, vr6, vr7, vr8, vr9, vr10, vr11, vr12, vr13, vr14, vr15, vr16, vr17, vr18, vr19, vr20, vr21, vr22, vr23, vr24, vr25, vr26, vr27, vr28, vr29, vr30, vr31, vr32, vr33, vr34, opS, fpS, okP, pack, nAl, allocA, shId, leaves, fillA, fillR, splice, Nat.reduceLT, Nat.reduceEqDiff, Nat.reduceLeDiff, Nat.reduceAdd, Nat.reduceSub, Nat.reduceMul, Int.reduceBEq, Int.reduceBNe, Int.reduceLT, Int.reduceLE, Int.reduceEq, reduceIte, reduceCtorEq, da, int, boolA]) <;> rfl
          | false =>
            have hf : formM depth p n = ksM p none (keysM n) := by unfold formM; simp only [e1, e2, e3, e4, e5]; simp
            simp only [↓vp, vq0, vq1, vq2, vq3, vr0, vr1, vr2, vr3, vr4, vr5, vr6, vr7, vr8, vr9, vr10, vr11, vr12, vr13, vr14, vr15, vr16, vr17, vr18, vr19, vr20, vr21, vr22, vr23, vr24, vr25, vr26, vr27, vr28, vr29, vr30, vr31, vr32, vr33, vr34, opS, fpS, okP, pack, nAl, allocA, shId, leaves, fillA, fillR, splice, Nat.reduceLT, Nat.reduceEqDiff, Nat.reduceLeDiff, Nat.reduceAdd, Nat.reduceSub, Nat.reduceMul, Int.reduceBEq, Int.reduceBNe, Int.reduceLT, Int.reduceLE, Int.reduceEq, reduceIte, reduceCtorEq, da, int, boolA, cl, ca, c1, ow, n_take3', k70, h1, h2, lenY, e1, e2, e3, e4, e5]
            refine key hf _ ?_ ?_ ?_ ?_ ?_ <;> (try simp only [↓vp, vq0, vq1, vq2, vq3, vr0, vr1, vr2, vr3, vr4, vr5, vr6, vr7, vr8, vr9, vr10, vr11, vr12, vr13, vr14, vr15, vr16, vr17, vr18, vr19, vr20, vr21, vr22, vr23, vr24, vr25, vr26, vr27, vr28, vr29, vr30, vr31, vr32, vr33, vr34, opS, fpS, okP, pack, nAl, allocA, shId, leaves, fillA, fillR, splice, Nat.reduceLT, Nat.reduceEqDiff, Nat.reduceLeDiff, Nat.reduceAdd, Nat.reduceSub, Nat.reduceMul, Int.reduceBEq, Int.reduceBNe, Int.reduceLT, Int.reduceLE, Int.reduceEq, reduceIte, reduceCtorEq, da, int, boolA]) <;> rfl
        | false =>
          have hf : formM depth p n = false := by unfold formM; simp only [e1, e2, e3, e4]; simp
          simp only [↓vp, vq0, vq1, vq2, vq3, vr0, vr1, vr2, vr3, vr4, vr5, vr6, vr7, vr8, vr9, vr10, vr11, vr12, vr13, vr14, vr15, vr16, vr17, vr18, vr19, vr20, vr21, vr22, vr23, vr24, vr25, vr26, vr27, vr28, vr29, vr30, vr31, vr32, vr33, vr34, opS, fpS, okP, pack, nAl, allocA, shId, leaves, fillA, fillR, splice, Nat.reduceLT, Nat.reduceEqDiff, Nat.reduceLeDiff, Nat.reduceAdd, Nat.reduceSub, Nat.reduceMul, Int.reduceBEq, Int.reduceBNe, Int.reduceLT, Int.reduceLE, Int.reduceEq, reduceIte, reduceCtorEq, da, int, boolA, RetO_go, resT, resC, resN, retV1, retV2, retV3, retV0, Option.some.injEq, cl, ca, c1, ow, hf, e1, e2, e3, e4]
      | false =>
        cases e5 : decide ((0 : Int) < depth) with
        | true =>
          cases e6 : (depth != p.deep) with
          | true =>
            have hf : formM depth p n = false := by unfold formM; simp only [e1, e2, e3, e5, e6]; simp
            simp only [↓vp, vq0, vq1, vq2, vq3, vr0, vr1, vr2, vr3, vr4, vr5, vr6, vr7, vr8, vr9, vr10, vr11, vr12, vr13, vr14, vr15, vr16, vr17, vr18, vr19, vr20, vr21, vr22, vr23, vr24, vr25, vr26, vr27, vr28, vr29, vr30, vr31, vr32, vr33, vr34, opS, fpS, okP, pack, nAl, allocA, shId, leaves, fillA, fillR, splice, Nat.reduceLT, Nat.reduceEqDiff, Nat.reduceLeDiff, Nat.reduceAdd, Nat.reduceSub, Nat.reduceMul, Int.reduceBEq, Int.reduceBNe, Int.reduceLT, Int.reduceLE, Int.reduceEq, reduceIte, reduceCtorEq, da, int, boolA, RetO_go, resT, resC, resN, retV1, retV2, retV3, retV0, Option.some.injEq, cl, ca, c1, ow, hf, e1, e2, e3, e5, e6]
          | false =>
            have hf : formM depth p n = ksM p none (keysM n) := by unfold formM; simp only [e1, e2, e3, e5, e6]; simp
            simp only [↓vp, vq0, vq1, vq2, vq3, vr0, vr1, vr2, vr3, vr4, vr5, vr6, vr7, vr8, vr9, vr10, vr11, vr12, vr13, vr14, vr15, vr16, vr17, vr18, vr19, vr20, vr21, vr22, vr23, vr24, vr25, vr26, vr27, vr28, vr29, vr30, vr31, vr32, vr33, vr34, opS, fpS, okP, pack, nAl, allocA, shId, leaves, fillA, fillR, splice, Nat.reduceLT, Nat.reduceEqDiff, Nat.reduceLeDiff, Nat.reduceAdd, Nat.reduceSub, Nat.reduceMul, Int.reduceBEq, Int.reduceBNe, Int.reduceLT, Int.reduceLE, Int.reduceEq, reduceIte, reduceCtorEq, da, int, boolA, cl, ca, c1, ow, n_take3', k70, h1, h2, lenY, e1, e2, e3, e5, e6]
            refine key hf _ ?_ ?_ ?_ ?_ ?_ <;> (try simp only [↓vp, vq0, vq1, vq2, vq3, vr0, vr1, vr2, vr3, vr4, vr5, vr6, vr7, vr8, vr9, vr10, vr11, vr12, vr13, vr14, vr15, vr16, vr17, vr18, vr19, vr20, vr21, vr22, vr23, vr24, vr25, vr26, vr27, vr28, vr29, vr30, vr31, vr32, vr33, vr34, opS, fpS, okP, pack, nAl, allocA, shId, leaves, fillA, fillR, splice, Nat.reduceLT, Nat.reduceEqDiff, Nat.reduceLeDiff, Nat.reduceAdd, Nat.reduceSub, Nat.reduceMul, Int.reduceBEq, Int.reduceBNe, Int.reduceLT, Int.reduceLE, Int.reduceEq, reduceIte, reduceCtorEq, da, int, boolA]) <;> rfl
        | false =>
          have hf : formM depth p n = ksM p none (keysM n) := by unfold formM; simp only [e1, e2, e3, e5]; simp
          simp only [↓vp, vq0, vq1, vq2, vq3, vr0, vr1, vr2, vr3, vr4, vr5, vr6, vr7, vr8, vr9, vr10, vr11, vr12, vr13, vr14, vr15, vr16, vr17, vr18, vr19, vr20, vr21, vr22, vr23, vr24, vr25, vr26, vr27, vr28, vr29, vr30, vr31, vr32, vr33, vr34, opS, fpS, okP, pack, nAl, allocA, shId, leaves, fillA, fillR, splice, Nat.reduceLT, Nat.reduceEqDiff, Nat.reduceLeDiff, Nat.reduceAdd, Nat.reduceSub, Nat.reduceMul, Int.reduceBEq, Int.reduceBNe, Int.reduceLT, Int.reduceLE, Int.reduceEq, reduceIte, reduceCtorEq, da, int, boolA, cl, ca, c1, ow, n_take3', k70, h1, h2, lenY, e1, e2, e3, e5]
          refine key hf _ ?_ ?_ ?_ ?_ ?_ <;> (try simp only [↓vp, vq0, vq1, vq2, vq3, vr0, vr1, vr2, vr3, vr4, vr5, vr6, vr7, vr8, vr9, vr10, vr11, vr12, vr13, vr14, vr15, vr16, vr17, vr18, vr19, vr20, vr21, vr22, vr23, vr24, vr25, vr26, vr27, vr28, vr29, vr30, vr31, vr32, vr33, vr34, opS, fpS, okP, pack, nAl, allocA, shId, leaves, fillA, fillR, splice, Nat.reduceLT, Nat.reduceEqDiff, Nat.reduceLeDiff, Nat.reduceAdd, Nat.reduceSub, Nat.reduceMul, Int.reduceBEq, Int.reduceBNe, Int.reduceLT, Int.reduceLE, Int.reduceEq, reduceIte, reduceCtorEq, da, int, boolA]) <;> rfl
  | false =>
    cases e2 : decide ((0 : Int) < n.items.length) with
    | true =>
      have hf : formM depth p n = false := by unfold formM; simp only [e1, e2]; simp
      simp only [↓vp, vq0, vq1, vq2, vq3, vr0, vr1, vr2, vr3, vr4, vr5, vr6, vr7, vr8, vr9, vr10, vr11, vr12, vr13, vr14, vr15, vr16, vr17, vr18, vr19, vr20, vr21, vr22, vr23, vr24, vr25, vr26, vr27, vr28, vr29, vr30, vr31, vr32, vr33, vr34, opS, fpS, okP, pack, nAl, allocA, shId, leaves, fillA, fillR, splice, Nat.reduceLT, Nat.reduceEqDiff, Nat.reduceLeDiff, Nat.reduceAdd, Nat.reduceSub, Nat.reduceMul, Int.reduceBEq, Int.reduceBNe, Int.reduceLT, Int.reduceLE, Int.reduceEq, reduceIte, reduceCtorEq, da, int, boolA, RetO_go, resT, resC, resN, retV1, retV2, retV3, retV0, Option.some.injEq, cl, ca, c1, ow, hf, e1, e2]
    | false =>
      cases e3 : decide ((n.kids.length : Int) < 2) with
      | true =>
        have hf : formM depth p n = false := by unfold formM; simp only [e1, e2, e3]; simp
        simp only [↓vp, vq0, vq1, vq2, vq3, vr0, vr1, vr2, vr3, vr4, vr5, vr6, vr7, vr8, vr9, vr10, vr11, vr12, vr13, vr14, vr15, vr16, vr17, vr18, vr19, vr20, vr21, vr22, vr23, vr24, vr25, vr26, vr27, vr28, vr29, vr30, vr31, vr32, vr33, vr34, opS, fpS, okP, pack, nAl, allocA, shId, leaves, fillA, fillR, splice, Nat.reduceLT, Nat.reduceEqDiff, Nat.reduceLeDiff, Nat.reduceAdd, Nat.reduceSub, Nat.reduceMul, Int.reduceBEq, Int.reduceBNe, Int.reduceLT, Int.reduceLE, Int.reduceEq, reduceIte, reduceCtorEq, da, int, boolA, RetO_go, resT, resC, resN, retV1, retV2, retV3, retV0, Option.some.injEq, cl, ca, c1, ow, hf, e1, e2, e3]
      | false =>
        have hf : formM depth p n = ksM p none (keysM n) := by unfold formM; simp only [e1, e2, e3]; simp
        simp only [↓vp, vq0, vq1, vq2, vq3, vr0, vr1, vr2, vr3, vr4, vr5, vr6, vr7, vr8, vr9, vr10, vr11, vr12, vr13, vr14, vr15, vr16, vr17, vr18, vr19, vr20, vr21, vr22, vr23, vr24, vr25, vr26, vr27, vr28, vr29, vr30, vr31, vr32, vr33, vr34, opS, fpS, okP, pack, nAl, allocA, shId, leaves, fillA, fillR, splice, Nat.reduceLT, Nat.reduceEqDiff, Nat.reduceLeDiff, Nat.reduceAdd, Nat.reduceSub, Nat.reduceMul, Int.reduceBEq, Int.reduceBNe, Int.reduceLT, Int.reduceLE, Int.reduceEq, reduceIte, reduceCtorEq, da, int, boolA, cl, ca, c1, ow, n_take3', k70, h1, h2, lenY, e1, e2, e3]
        refine key hf _ ?_ ?_ ?_ ?_ ?_ <;> (try simp only [↓vp, vq0, vq1, vq2, vq3, vr0, vr1, vr2, vr3, vr4, vr5, vr6, vr7, vr8, vr9, vr10, vr11, vr12, vr13, vr14, vr15, vr16, vr17, vr18, vr19, vr20, vr21, vr22, vr23, vr24, vr25, vr26, vr27, vr28, vr29, vr30, vr31, vr32, vr33, vr34, opS, fpS, okP, pack, nAl, allocA, shId, leaves, fillA, fillR, splice, Nat.reduceLT, Nat.reduceEqDiff, Nat.reduceLeDiff, Nat.reduceAdd, Nat.reduceSub, Nat.reduceMul, Int.reduceBEq, Int.reduceBNe, Int.reduceLT, Int.reduceLE, Int.reduceEq, reduceIte, reduceCtorEq, da, int, boolA]) <;> rfl
end Go.VI
