/- VI, part SI: the document's way. -/
import Derived.Test.YtkjeigdiojdfnaaSH
set_option linter.unusedVariables false
set_option linter.unusedSimpArgs false
set_option maxRecDepth 100000
namespace Go.VI
attribute [local congr] AW_congr OW_congr DW_congr NW_congr VW_congr GW_congr PW_congr KW_congr ite_congr' GV_congr CV_congr

/-- The document's choice: 0 by a key, 1 first, 2 last. -/
def refK (which : Int) (key : Bytes) (n : NodeM) : Int :=
  if which = 0 then (if n.leaf then (findM n.items key).1 else sideM n.kids key)
  else if which = 2 ∧ 0 < manyN n then manyN n - 1 else 0
def refM (kf : NodeM → Int) (l : List NamedM) : Nat → Int → List StepM × Int
  | 0, _ => ([], 130)
  | d + 1, ref =>
    if (nodeM l ref).2 ≠ 0 then ([], (nodeM l ref).2)
    else if (nodeM l ref).1.leaf = false ∧ (nodeM l ref).1.kids.length = 0 then ([], 131)
    else if (nodeM l ref).1.leaf then ([⟨ref, (nodeM l ref).1, kf (nodeM l ref).1⟩], 0)
    else match (nodeM l ref).1.kids[(kf (nodeM l ref).1).toNat]? with
      | some x => if (refM kf l d x.ref).2 ≠ 0 then ([], (refM kf l d x.ref).2) else (⟨ref, (nodeM l ref).1, kf (nodeM l ref).1⟩ :: (refM kf l d x.ref).1, 0)
      | none => ([], 130)
theorem refM_len (kf : NodeM → Int) (l : List NamedM) : ∀ d ref, (refM kf l d ref).1.length ≤ d
  | 0, ref => by simp [refM]
  | d + 1, ref => by
    rw [refM]
    repeat' split
    all_goals simp
    exact refM_len kf l d _
theorem sideF_lt (key : Bytes) (m : Nat) : ∀ (l : List KidM) (i c : Nat), c < m → i + l.length ≤ m → sideF key i c l < m
  | [], i, c, hc, _ => hc
  | x :: l, i, c, hc, hi => by
    rw [sideF]
    simp only [List.length_cons] at hi
    refine sideF_lt key m l (i + 1) _ ?_ (by omega)
    split <;> omega
theorem sideM_lt (l : List KidM) (key : Bytes) (h : 0 < l.length) : sideM l key < l.length :=
  sideF_lt key l.length (l.drop 1) 1 0 h (by simp; omega)
theorem k48 {n : NodeM} {K : Heap} {L : List Blk} {Q : AV → Heap → Prop} : KW ft (.fn (.func 48) [] []) [.agg (nodeC n)] (hx K L) Q ↔ Q (int (manyN n)) (hx K L) := KW_of (s48 n _)
theorem k49 {n : NodeM} {key : Bytes} (hn : okN n) (hk : okB key) {K : Heap} {L : List Blk} {Q : AV → Heap → Prop} :
    KW ft (.fn (.func 49) [] []) [.agg (nodeC n), encB key] (hx K L) Q ↔ Q (.tup [int (findM n.items key).1, boolA (findM n.items key).2]) (hx K L) := KW_of (s49 n key hn hk _)
theorem k50 {n : NodeM} {key : Bytes} (hn : okN n) (hk : okB key) {K : Heap} {L : List Blk} {Q : AV → Heap → Prop} :
    KW ft (.fn (.func 50) [] []) [.agg (nodeC n), encB key] (hx K L) Q ↔ Q (int (sideM n.kids key)) (hx K L) := KW_of (s50 n key hn hk _)

theorem rowsS (H : Heap) (l : List StepM) : rowsOf H (encS l) = some (l.map stepC) := rfl
theorem szS : ∀ (l : List StepM), allSz 5 (l.map stepC) = true
  | [] => rfl
  | x :: l => by rw [List.map_cons, allSz_cons, szS l]; rfl
theorem s18a (l : List NamedM) (hl : okL l) (ht : tinyL l) (key : Bytes) (hk : okB key) : ∀ (d : Nat), d ≤ 12 → ∀ (ref : Int) (H : Heap),
    callL ft (.fn (.func 18) [] []) [encL l, int ref, int 0, encB key, int d] H = some (.tup [encS (refM (refK 0 key) l d ref).1, int (refM (refK 0 key) l d ref).2], H) := by
  intro d
  induction d with
  | zero =>
    intro _ ref H
    refine call_p (as' := [encL l, int ref, int 0, encB key, int (0 : Nat)]) rfl rfl (by simp) ?_
    unfold c18 r18
    simp only [↓vp, vq0, vq1, vq2, vq3, vr0, vr1, vr2, vr3, vr4, vr5, vr6, vr7, vr8, vr9, vr10, vr11, vr12, vr13, vr14, vr15, vr16, vr17, vr18, vr19, vr20, vr21, vr22, vr23, vr24, vr25, vr26, vr27, vr28, vr29, vr30, vr31, vr32, vr33, vr34, opS, fpS, okP, pack, nAl, allocA, shId, leaves, fillA, fillR, splice, Nat.reduceLT, Nat.reduceEqDiff, Nat.reduceLeDiff, Nat.reduceAdd, Nat.reduceSub, Nat.reduceMul, Int.reduceBEq, Int.reduceBNe, Int.reduceLT, Int.reduceLE, Int.reduceEq, reduceIte, reduceCtorEq, da, int, boolA, RetP_go, resT, resC, resN, retV1, retV2, retV3, retV0, frzFZ, takeM, Option.some.injEq, Int.ofNat_zero, Int.natCast_zero, Int.cast_ofNat_Int, refM]
    rfl
  | succ d ih =>
    intro hd ref H
    have o1 := ok_node hl ref
    have k46' := fun K L Q => k46 (ref := ref) hl (K := K) (L := L) (Q := Q)
    have ihk : ∀ (x : Int) (K : Heap) (L : List Blk) (Q : AV → Heap → Prop), KW ft (.fn (.func 18) [] []) [encL l, int x, int 0, encB key, int d] (hx K L) Q ↔ Q (.tup [encS (refM (refK 0 key) l d x).1, int (refM (refK 0 key) l d x).2]) (hx K L) := fun x K L Q => KW_of (ih (by omega) x _)
    have rl := refM_len (refK 0 key) l d
    simp only [int] at k46' ihk
    refine call_p (as' := [encL l, int ref, int 0, encB key, int (d + 1 : Nat)]) rfl rfl (by simp) ?_
    have g0 : (((d + 1 : Nat) : Int) == 0) = false := by simp; omega
    have w1 := wrap_pred (show d < 9223372036854775807 by omega)
    rw [refM]
    generalize nodeM l ref = p at *
    obtain ⟨n, er⟩ := p
    simp only at o1 k46' ⊢
    unfold c18 r18
    cases e1 : (er != 0) with
    | true =>
      have e1' : er ≠ 0 := by simpa using e1
      rw [if_pos e1']
      simp only [↓vp, vq0, vq1, vq2, vq3, vr0, vr1, vr2, vr3, vr4, vr5, vr6, vr7, vr8, vr9, vr10, vr11, vr12, vr13, vr14, vr15, vr16, vr17, vr18, vr19, vr20, vr21, vr22, vr23, vr24, vr25, vr26, vr27, vr28, vr29, vr30, vr31, vr32, vr33, vr34, opS, fpS, okP, pack, nAl, allocA, shId, leaves, fillA, fillR, splice, Nat.reduceLT, Nat.reduceEqDiff, Nat.reduceLeDiff, Nat.reduceAdd, Nat.reduceSub, Nat.reduceMul, Int.reduceBEq, Int.reduceBNe, Int.reduceLT, Int.reduceLE, Int.reduceEq, reduceIte, reduceCtorEq, da, int, boolA, RetP_go, resT, resC, resN, retV1, retV2, retV3, retV0, frzFZ, takeM, Option.some.injEq, g0, k46', e1]
      rfl
    | false =>
      have e1' : ¬ er ≠ 0 := by simpa using e1
      rw [if_neg e1']
      cases e2 : n.leaf with
      | true =>
        rw [if_neg (by simp), if_pos rfl]
        have hrk : refK 0 key n = (findM n.items key).1 := by simp [refK, e2]
        simp only [↓vp, vq0, vq1, vq2, vq3, vr0, vr1, vr2, vr3, vr4, vr5, vr6, vr7, vr8, vr9, vr10, vr11, vr12, vr13, vr14, vr15, vr16, vr17, vr18, vr19, vr20, vr21, vr22, vr23, vr24, vr25, vr26, vr27, vr28, vr29, vr30, vr31, vr32, vr33, vr34, opS, fpS, okP, pack, nAl, allocA, shId, leaves, fillA, fillR, splice, Nat.reduceLT, Nat.reduceEqDiff, Nat.reduceLeDiff, Nat.reduceAdd, Nat.reduceSub, Nat.reduceMul, Int.reduceBEq, Int.reduceBNe, Int.reduceLT, Int.reduceLE, Int.reduceEq, reduceIte, reduceCtorEq, da, int, boolA, RetP_go, resT, resC, resN, retV1, retV2, retV3, retV0, frzFZ, takeM, Option.some.injEq, List.length_append, n_take, n_take4, n_drop, n_drop3, n_onea, zna, g0, k46', e1, e2, k48, k49, o1, hk, hrk]
        rfl
      | false =>
        have hm : manyN n = (n.kids.length : Int) := by simp [manyN, e2]
        have hrk : refK 0 key n = sideM n.kids key := by simp [refK, e2]
        cases e3 : ((n.kids.length : Int) == 0) with
        | true =>
          have e3' : n.kids.length = 0 := by simpa using e3
          rw [if_pos ⟨rfl, e3'⟩]
          simp only [↓vp, vq0, vq1, vq2, vq3, vr0, vr1, vr2, vr3, vr4, vr5, vr6, vr7, vr8, vr9, vr10, vr11, vr12, vr13, vr14, vr15, vr16, vr17, vr18, vr19, vr20, vr21, vr22, vr23, vr24, vr25, vr26, vr27, vr28, vr29, vr30, vr31, vr32, vr33, vr34, opS, fpS, okP, pack, nAl, allocA, shId, leaves, fillA, fillR, splice, Nat.reduceLT, Nat.reduceEqDiff, Nat.reduceLeDiff, Nat.reduceAdd, Nat.reduceSub, Nat.reduceMul, Int.reduceBEq, Int.reduceBNe, Int.reduceLT, Int.reduceLE, Int.reduceEq, reduceIte, reduceCtorEq, da, int, boolA, RetP_go, resT, resC, resN, retV1, retV2, retV3, retV0, frzFZ, takeM, Option.some.injEq, g0, k46', e1, e2, k48, hm, e3]
          rfl
        | false =>
          have e3' : n.kids.length ≠ 0 := by simpa using e3
          rw [if_neg (by simp [e3']), if_neg (by simp)]
          have hjl : sideM n.kids key < n.kids.length := sideM_lt n.kids key (by omega)
          rw [hrk, Int.toNat_natCast, List.getElem?_eq_getElem hjl]
          have rl' := rl n.kids[sideM n.kids key].ref
          simp only
          cases e4 : ((refM (refK 0 key) l d n.kids[sideM n.kids key].ref).2 != 0) with
          | true =>
            have e4' : (refM (refK 0 key) l d n.kids[sideM n.kids key].ref).2 ≠ 0 := by simpa using e4
            rw [if_pos e4']
            simp only [↓vp, vq0, vq1, vq2, vq3, vr0, vr1, vr2, vr3, vr4, vr5, vr6, vr7, vr8, vr9, vr10, vr11, vr12, vr13, vr14, vr15, vr16, vr17, vr18, vr19, vr20, vr21, vr22, vr23, vr24, vr25, vr26, vr27, vr28, vr29, vr30, vr31, vr32, vr33, vr34, opS, fpS, okP, pack, nAl, allocA, shId, leaves, fillA, fillR, splice, Nat.reduceLT, Nat.reduceEqDiff, Nat.reduceLeDiff, Nat.reduceAdd, Nat.reduceSub, Nat.reduceMul, Int.reduceBEq, Int.reduceBNe, Int.reduceLT, Int.reduceLE, Int.reduceEq, reduceIte, reduceCtorEq, da, int, boolA, RetP_go, resT, resC, resN, retV1, retV2, retV3, retV0, frzFZ, takeM, Option.some.injEq, List.length_append, n_take, n_take4, n_drop, n_drop3, n_onea, zna, g0, k46', e1, e2, k48, k50, o1, hk, hm, e3, atK hjl, cK hjl, ihk, w1, e4]
            rfl
          | false =>
            have e4' : ¬ (refM (refK 0 key) l d n.kids[sideM n.kids key].ref).2 ≠ 0 := by simpa using e4
            rw [if_neg e4']
            have hb : (1 + (refM (refK 0 key) l d n.kids[sideM n.kids key].ref).1.length) * 72 ≤ 140737488355328 := by omega
            simp only [↓vp, vq0, vq1, vq2, vq3, vr0, vr1, vr2, vr3, vr4, vr5, vr6, vr7, vr8, vr9, vr10, vr11, vr12, vr13, vr14, vr15, vr16, vr17, vr18, vr19, vr20, vr21, vr22, vr23, vr24, vr25, vr26, vr27, vr28, vr29, vr30, vr31, vr32, vr33, vr34, opS, fpS, okP, pack, nAl, allocA, shId, leaves, fillA, fillR, splice, Nat.reduceLT, Nat.reduceEqDiff, Nat.reduceLeDiff, Nat.reduceAdd, Nat.reduceSub, Nat.reduceMul, Int.reduceBEq, Int.reduceBNe, Int.reduceLT, Int.reduceLE, Int.reduceEq, reduceIte, reduceCtorEq, da, int, boolA, RetP_go, resT, resC, resN, retV1, retV2, retV3, retV0, frzFZ, takeM, Option.some.injEq, List.length_append, n_take, n_take4, n_drop, n_drop3, n_onea, zna, g0, k46', e1, e2, k48, k50, o1, hk, hm, e3, atK hjl, cK hjl, ihk, w1, e4, rowsS, szS, hb]
            rw [if_pos (by omega), List.take_of_length_le (by simp; omega)]
            rfl
theorem s18b (l : List NamedM) (hl : okL l) (ht : tinyL l) (key : Bytes) (hk : okB key) : ∀ (d : Nat), d ≤ 12 → ∀ (ref : Int) (H : Heap),
    callL ft (.fn (.func 18) [] []) [encL l, int ref, int 1, encB key, int d] H = some (.tup [encS (refM (refK 1 key) l d ref).1, int (refM (refK 1 key) l d ref).2], H) := by
  intro d
  induction d with
  | zero =>
    intro _ ref H
    refine call_p (as' := [encL l, int ref, int 1, encB key, int (0 : Nat)]) rfl rfl (by simp) ?_
    unfold c18 r18
    simp only [↓vp, vq0, vq1, vq2, vq3, vr0, vr1, vr2, vr3, vr4, vr5, vr6, vr7, vr8, vr9, vr10, vr11, vr12, vr13, vr14, vr15, vr16, vr17, vr18, vr19, vr20, vr21, vr22, vr23, vr24, vr25, vr26, vr27, vr28, vr29, vr30, vr31, vr32, vr33, vr34, opS, fpS, okP, pack, nAl, allocA, shId, leaves, fillA, fillR, splice, Nat.reduceLT, Nat.reduceEqDiff, Nat.reduceLeDiff, Nat.reduceAdd, Nat.reduceSub, Nat.reduceMul, Int.reduceBEq, Int.reduceBNe, Int.reduceLT, Int.reduceLE, Int.reduceEq, reduceIte, reduceCtorEq, da, int, boolA, RetP_go, resT, resC, resN, retV1, retV2, retV3, retV0, frzFZ, takeM, Option.some.injEq, Int.ofNat_zero, Int.natCast_zero, Int.cast_ofNat_Int, refM]
    rfl
  | succ d ih =>
    intro hd ref H
    have o1 := ok_node hl ref
    have k46' := fun K L Q => k46 (ref := ref) hl (K := K) (L := L) (Q := Q)
    have ihk : ∀ (x : Int) (K : Heap) (L : List Blk) (Q : AV → Heap → Prop), KW ft (.fn (.func 18) [] []) [encL l, int x, int 1, encB key, int d] (hx K L) Q ↔ Q (.tup [encS (refM (refK 1 key) l d x).1, int (refM (refK 1 key) l d x).2]) (hx K L) := fun x K L Q => KW_of (ih (by omega) x _)
    have rl := refM_len (refK 1 key) l d
    simp only [int] at k46' ihk
    refine call_p (as' := [encL l, int ref, int 1, encB key, int (d + 1 : Nat)]) rfl rfl (by simp) ?_
    have g0 : (((d + 1 : Nat) : Int) == 0) = false := by simp; omega
    have w1 := wrap_pred (show d < 9223372036854775807 by omega)
    rw [refM]
    generalize nodeM l ref = p at *
    obtain ⟨n, er⟩ := p
    simp only at o1 k46' ⊢
    unfold c18 r18
    cases e1 : (er != 0) with
    | true =>
      have e1' : er ≠ 0 := by simpa using e1
      rw [if_pos e1']
      simp only [↓vp, vq0, vq1, vq2, vq3, vr0, vr1, vr2, vr3, vr4, vr5, vr6, vr7, vr8, vr9, vr10, vr11, vr12, vr13, vr14, vr15, vr16, vr17, vr18, vr19, vr20, vr21, vr22, vr23, vr24, vr25, vr26, vr27, vr28, vr29, vr30, vr31, vr32, vr33, vr34, opS, fpS, okP, pack, nAl, allocA, shId, leaves, fillA, fillR, splice, Nat.reduceLT, Nat.reduceEqDiff, Nat.reduceLeDiff, Nat.reduceAdd, Nat.reduceSub, Nat.reduceMul, Int.reduceBEq, Int.reduceBNe, Int.reduceLT, Int.reduceLE, Int.reduceEq, reduceIte, reduceCtorEq, da, int, boolA, RetP_go, resT, resC, resN, retV1, retV2, retV3, retV0, frzFZ, takeM, Option.some.injEq, g0, k46', e1]
      rfl
    | false =>
      have e1' : ¬ er ≠ 0 := by simpa using e1
      rw [if_neg e1']
      cases e2 : n.leaf with
      | true =>
        rw [if_neg (by simp), if_pos rfl]
        have hrk : refK 1 key n = 0 := by simp [refK]
        simp only [↓vp, vq0, vq1, vq2, vq3, vr0, vr1, vr2, vr3, vr4, vr5, vr6, vr7, vr8, vr9, vr10, vr11, vr12, vr13, vr14, vr15, vr16, vr17, vr18, vr19, vr20, vr21, vr22, vr23, vr24, vr25, vr26, vr27, vr28, vr29, vr30, vr31, vr32, vr33, vr34, opS, fpS, okP, pack, nAl, allocA, shId, leaves, fillA, fillR, splice, Nat.reduceLT, Nat.reduceEqDiff, Nat.reduceLeDiff, Nat.reduceAdd, Nat.reduceSub, Nat.reduceMul, Int.reduceBEq, Int.reduceBNe, Int.reduceLT, Int.reduceLE, Int.reduceEq, reduceIte, reduceCtorEq, da, int, boolA, RetP_go, resT, resC, resN, retV1, retV2, retV3, retV0, frzFZ, takeM, Option.some.injEq, List.length_append, n_take, n_take4, n_drop, n_drop3, n_onea, zna, g0, k46', e1, e2, k48, k49, o1, hk, hrk]
        rfl
      | false =>
        have hm : manyN n = (n.kids.length : Int) := by simp [manyN, e2]
        have hrk : refK 1 key n = 0 := by simp [refK]
        cases e3 : ((n.kids.length : Int) == 0) with
        | true =>
          have e3' : n.kids.length = 0 := by simpa using e3
          rw [if_pos ⟨rfl, e3'⟩]
          simp only [↓vp, vq0, vq1, vq2, vq3, vr0, vr1, vr2, vr3, vr4, vr5, vr6, vr7, vr8, vr9, vr10, vr11, vr12, vr13, vr14, vr15, vr16, vr17, vr18, vr19, vr20, vr21, vr22, vr23, vr24, vr25, vr26, vr27, vr28, vr29, vr30, vr31, vr32, vr33, vr34, opS, fpS, okP, pack, nAl, allocA, shId, leaves, fillA, fillR, splice, Nat.reduceLT, Nat.reduceEqDiff, Nat.reduceLeDiff, Nat.reduceAdd, Nat.reduceSub, Nat.reduceMul, Int.reduceBEq, Int.reduceBNe, Int.reduceLT, Int.reduceLE, Int.reduceEq, reduceIte, reduceCtorEq, da, int, boolA, RetP_go, resT, resC, resN, retV1, retV2, retV3, retV0, frzFZ, takeM, Option.some.injEq, g0, k46', e1, e2, k48, hm, e3]
          rfl
        | false =>
          have e3' : n.kids.length ≠ 0 := by simpa using e3
          rw [if_neg (by simp [e3']), if_neg (by simp)]
          have hjl : 0 < n.kids.length := by omega
          have at0 : ∀ H, iaddrA H none 2 (encK n.kids) 0 = some (.pim (n.kids.map kidC) 0 0) := fun H => atK (i := 0) hjl
          rw [hrk, show (0 : Int).toNat = 0 from rfl, List.getElem?_eq_getElem hjl]
          have rl' := rl n.kids[0].ref
          simp only
          cases e4 : ((refM (refK 1 key) l d n.kids[0].ref).2 != 0) with
          | true =>
            have e4' : (refM (refK 1 key) l d n.kids[0].ref).2 ≠ 0 := by simpa using e4
            rw [if_pos e4']
            simp only [↓vp, vq0, vq1, vq2, vq3, vr0, vr1, vr2, vr3, vr4, vr5, vr6, vr7, vr8, vr9, vr10, vr11, vr12, vr13, vr14, vr15, vr16, vr17, vr18, vr19, vr20, vr21, vr22, vr23, vr24, vr25, vr26, vr27, vr28, vr29, vr30, vr31, vr32, vr33, vr34, opS, fpS, okP, pack, nAl, allocA, shId, leaves, fillA, fillR, splice, Nat.reduceLT, Nat.reduceEqDiff, Nat.reduceLeDiff, Nat.reduceAdd, Nat.reduceSub, Nat.reduceMul, Int.reduceBEq, Int.reduceBNe, Int.reduceLT, Int.reduceLE, Int.reduceEq, reduceIte, reduceCtorEq, da, int, boolA, RetP_go, resT, resC, resN, retV1, retV2, retV3, retV0, frzFZ, takeM, Option.some.injEq, List.length_append, n_take, n_take4, n_drop, n_drop3, n_onea, zna, g0, k46', e1, e2, k48, k50, o1, hk, hm, e3, at0, cK hjl, ihk, w1, e4]
            rfl
          | false =>
            have e4' : ¬ (refM (refK 1 key) l d n.kids[0].ref).2 ≠ 0 := by simpa using e4
            rw [if_neg e4']
            have hb : (1 + (refM (refK 1 key) l d n.kids[0].ref).1.length) * 72 ≤ 140737488355328 := by omega
            simp only [↓vp, vq0, vq1, vq2, vq3, vr0, vr1, vr2, vr3, vr4, vr5, vr6, vr7, vr8, vr9, vr10, vr11, vr12, vr13, vr14, vr15, vr16, vr17, vr18, vr19, vr20, vr21, vr22, vr23, vr24, vr25, vr26, vr27, vr28, vr29, vr30, vr31, vr32, vr33, vr34, opS, fpS, okP, pack, nAl, allocA, shId, leaves, fillA, fillR, splice, Nat.reduceLT, Nat.reduceEqDiff, Nat.reduceLeDiff, Nat.reduceAdd, Nat.reduceSub, Nat.reduceMul, Int.reduceBEq, Int.reduceBNe, Int.reduceLT, Int.reduceLE, Int.reduceEq, reduceIte, reduceCtorEq, da, int, boolA, RetP_go, resT, resC, resN, retV1, retV2, retV3, retV0, frzFZ, takeM, Option.some.injEq, List.length_append, n_take, n_take4, n_drop, n_drop3, n_onea, zna, g0, k46', e1, e2, k48, k50, o1, hk, hm, e3, at0, cK hjl, ihk, w1, e4, rowsS, szS, hb]
            rw [if_pos (by omega), List.take_of_length_le (by simp; omega)]
            rfl
theorem s18c (l : List NamedM) (hl : okL l) (ht : tinyL l) (key : Bytes) (hk : okB key) : ∀ (d : Nat), d ≤ 12 → ∀ (ref : Int) (H : Heap),
    callL ft (.fn (.func 18) [] []) [encL l, int ref, int 2, encB key, int d] H = some (.tup [encS (refM (refK 2 key) l d ref).1, int (refM (refK 2 key) l d ref).2], H) := by
  intro d
  induction d with
  | zero =>
    intro _ ref H
    refine call_p (as' := [encL l, int ref, int 2, encB key, int (0 : Nat)]) rfl rfl (by simp) ?_
    unfold c18 r18
    simp only [↓vp, vq0, vq1, vq2, vq3, vr0, vr1, vr2, vr3, vr4, vr5, vr6, vr7, vr8, vr9, vr10, vr11, vr12, vr13, vr14, vr15, vr16, vr17, vr18, vr19, vr20, vr21, vr22, vr23, vr24, vr25, vr26, vr27, vr28, vr29, vr30, vr31, vr32, vr33, vr34, opS, fpS, okP, pack, nAl, allocA, shId, leaves, fillA, fillR, splice, Nat.reduceLT, Nat.reduceEqDiff, Nat.reduceLeDiff, Nat.reduceAdd, Nat.reduceSub, Nat.reduceMul, Int.reduceBEq, Int.reduceBNe, Int.reduceLT, Int.reduceLE, Int.reduceEq, reduceIte, reduceCtorEq, da, int, boolA, RetP_go, resT, resC, resN, retV1, retV2, retV3, retV0, frzFZ, takeM, Option.some.injEq, Int.ofNat_zero, Int.natCast_zero, Int.cast_ofNat_Int, refM]
    rfl
  | succ d ih =>
    intro hd ref H
    have o1 := ok_node hl ref
    have k46' := fun K L Q => k46 (ref := ref) hl (K := K) (L := L) (Q := Q)
    have ihk : ∀ (x : Int) (K : Heap) (L : List Blk) (Q : AV → Heap → Prop), KW ft (.fn (.func 18) [] []) [encL l, int x, int 2, encB key, int d] (hx K L) Q ↔ Q (.tup [encS (refM (refK 2 key) l d x).1, int (refM (refK 2 key) l d x).2]) (hx K L) := fun x K L Q => KW_of (ih (by omega) x _)
    have rl := refM_len (refK 2 key) l d
    simp only [int] at k46' ihk
    refine call_p (as' := [encL l, int ref, int 2, encB key, int (d + 1 : Nat)]) rfl rfl (by simp) ?_
    have g0 : (((d + 1 : Nat) : Int) == 0) = false := by simp; omega
    have w1 := wrap_pred (show d < 9223372036854775807 by omega)
    rw [refM]
    generalize nodeM l ref = p at *
    obtain ⟨n, er⟩ := p
    simp only at o1 k46' ⊢
    unfold c18 r18
    cases e1 : (er != 0) with
    | true =>
      have e1' : er ≠ 0 := by simpa using e1
      rw [if_pos e1']
      simp only [↓vp, vq0, vq1, vq2, vq3, vr0, vr1, vr2, vr3, vr4, vr5, vr6, vr7, vr8, vr9, vr10, vr11, vr12, vr13, vr14, vr15, vr16, vr17, vr18, vr19, vr20, vr21, vr22, vr23, vr24, vr25, vr26, vr27, vr28, vr29, vr30, vr31, vr32, vr33, vr34, opS, fpS, okP, pack, nAl, allocA, shId, leaves, fillA, fillR, splice, Nat.reduceLT, Nat.reduceEqDiff, Nat.reduceLeDiff, Nat.reduceAdd, Nat.reduceSub, Nat.reduceMul, Int.reduceBEq, Int.reduceBNe, Int.reduceLT, Int.reduceLE, Int.reduceEq, reduceIte, reduceCtorEq, da, int, boolA, RetP_go, resT, resC, resN, retV1, retV2, retV3, retV0, frzFZ, takeM, Option.some.injEq, g0, k46', e1]
      rfl
    | false =>
      have e1' : ¬ er ≠ 0 := by simpa using e1
      rw [if_neg e1']
      cases e2 : n.leaf with
      | true =>
        rw [if_neg (by simp), if_pos rfl]
        have hm : manyN n = (n.items.length : Int) := by simp [manyN, e2]
        have hi := o1.i.n
        unfold MX at hi
        by_cases hz : 0 < n.items.length
        rotate_left
        · have hrk : refK 2 key n = 0 := by rw [refK, if_neg (by decide), if_neg (by rw [hm]; omega)]
          have g2 : ((0 : Int) < n.items.length) = False := eq_false (by omega)
          simp only [↓vp, vq0, vq1, vq2, vq3, vr0, vr1, vr2, vr3, vr4, vr5, vr6, vr7, vr8, vr9, vr10, vr11, vr12, vr13, vr14, vr15, vr16, vr17, vr18, vr19, vr20, vr21, vr22, vr23, vr24, vr25, vr26, vr27, vr28, vr29, vr30, vr31, vr32, vr33, vr34, opS, fpS, okP, pack, nAl, allocA, shId, leaves, fillA, fillR, splice, Nat.reduceLT, Nat.reduceEqDiff, Nat.reduceLeDiff, Nat.reduceAdd, Nat.reduceSub, Nat.reduceMul, Int.reduceBEq, Int.reduceBNe, Int.reduceLT, Int.reduceLE, Int.reduceEq, reduceIte, reduceCtorEq, da, int, boolA, RetP_go, resT, resC, resN, retV1, retV2, retV3, retV0, frzFZ, takeM, Option.some.injEq, List.length_append, n_take, n_take4, n_drop, n_drop3, n_onea, zna, g0, k46', e1, e2, k48, o1, hk, hrk, hm, g2]
          rfl
        have hrk : refK 2 key n = (n.items.length : Int) - 1 := by rw [refK, if_neg (by decide), if_pos (by rw [hm]; omega), hm]
        have g2 : ((0 : Int) < n.items.length) = True := eq_true (by omega)
        have w2 : IntKind.i64.wrap ((n.items.length : Int) - 1) = (n.items.length : Int) - 1 := wrap_i64 (by omega)
        simp only [↓vp, vq0, vq1, vq2, vq3, vr0, vr1, vr2, vr3, vr4, vr5, vr6, vr7, vr8, vr9, vr10, vr11, vr12, vr13, vr14, vr15, vr16, vr17, vr18, vr19, vr20, vr21, vr22, vr23, vr24, vr25, vr26, vr27, vr28, vr29, vr30, vr31, vr32, vr33, vr34, opS, fpS, okP, pack, nAl, allocA, shId, leaves, fillA, fillR, splice, Nat.reduceLT, Nat.reduceEqDiff, Nat.reduceLeDiff, Nat.reduceAdd, Nat.reduceSub, Nat.reduceMul, Int.reduceBEq, Int.reduceBNe, Int.reduceLT, Int.reduceLE, Int.reduceEq, reduceIte, reduceCtorEq, da, int, boolA, RetP_go, resT, resC, resN, retV1, retV2, retV3, retV0, frzFZ, takeM, Option.some.injEq, List.length_append, n_take, n_take4, n_drop, n_drop3, n_onea, zna, g0, k46', e1, e2, k48, k49, o1, hk, hrk, hm, g2, w2]
        rfl
      | false =>
        have hm : manyN n = (n.kids.length : Int) := by simp [manyN, e2]
        have hki := o1.k.n
        unfold MX at hki
        cases e3 : ((n.kids.length : Int) == 0) with
        | true =>
          have e3' : n.kids.length = 0 := by simpa using e3
          rw [if_pos ⟨rfl, e3'⟩]
          simp only [↓vp, vq0, vq1, vq2, vq3, vr0, vr1, vr2, vr3, vr4, vr5, vr6, vr7, vr8, vr9, vr10, vr11, vr12, vr13, vr14, vr15, vr16, vr17, vr18, vr19, vr20, vr21, vr22, vr23, vr24, vr25, vr26, vr27, vr28, vr29, vr30, vr31, vr32, vr33, vr34, opS, fpS, okP, pack, nAl, allocA, shId, leaves, fillA, fillR, splice, Nat.reduceLT, Nat.reduceEqDiff, Nat.reduceLeDiff, Nat.reduceAdd, Nat.reduceSub, Nat.reduceMul, Int.reduceBEq, Int.reduceBNe, Int.reduceLT, Int.reduceLE, Int.reduceEq, reduceIte, reduceCtorEq, da, int, boolA, RetP_go, resT, resC, resN, retV1, retV2, retV3, retV0, frzFZ, takeM, Option.some.injEq, g0, k46', e1, e2, k48, hm, e3]
          rfl
        | false =>
          have e3' : n.kids.length ≠ 0 := by simpa using e3
          rw [if_neg (by simp [e3']), if_neg (by simp)]
          have hjl : n.kids.length - 1 < n.kids.length := by omega
          have hrk : refK 2 key n = ((n.kids.length - 1 : Nat) : Int) := by rw [refK, if_neg (by decide), if_pos (by rw [hm]; omega), hm]; omega
          have g2 : ((0 : Int) < n.kids.length) = True := eq_true (by omega)
          have w2 : IntKind.i64.wrap ((n.kids.length : Int) - 1) = ((n.kids.length - 1 : Nat) : Int) := by rw [wrap_i64 (by omega)]; omega
          rw [hrk, Int.toNat_natCast, List.getElem?_eq_getElem hjl]
          have rl' := rl n.kids[n.kids.length - 1].ref
          simp only
          cases e4 : ((refM (refK 2 key) l d n.kids[n.kids.length - 1].ref).2 != 0) with
          | true =>
            have e4' : (refM (refK 2 key) l d n.kids[n.kids.length - 1].ref).2 ≠ 0 := by simpa using e4
            rw [if_pos e4']
            simp only [↓vp, vq0, vq1, vq2, vq3, vr0, vr1, vr2, vr3, vr4, vr5, vr6, vr7, vr8, vr9, vr10, vr11, vr12, vr13, vr14, vr15, vr16, vr17, vr18, vr19, vr20, vr21, vr22, vr23, vr24, vr25, vr26, vr27, vr28, vr29, vr30, vr31, vr32, vr33, vr34, opS, fpS, okP, pack, nAl, allocA, shId, leaves, fillA, fillR, splice, Nat.reduceLT, Nat.reduceEqDiff, Nat.reduceLeDiff, Nat.reduceAdd, Nat.reduceSub, Nat.reduceMul, Int.reduceBEq, Int.reduceBNe, Int.reduceLT, Int.reduceLE, Int.reduceEq, reduceIte, reduceCtorEq, da, int, boolA, RetP_go, resT, resC, resN, retV1, retV2, retV3, retV0, frzFZ, takeM, Option.some.injEq, List.length_append, n_take, n_take4, n_drop, n_drop3, n_onea, zna, g0, k46', e1, e2, k48, k50, o1, hk, hm, e3, atK hjl, cK hjl, ihk, w1, e4, g2, w2]
            rfl
          | false =>
            have e4' : ¬ (refM (refK 2 key) l d n.kids[n.kids.length - 1].ref).2 ≠ 0 := by simpa using e4
            rw [if_neg e4']
            have hb : (1 + (refM (refK 2 key) l d n.kids[n.kids.length - 1].ref).1.length) * 72 ≤ 140737488355328 := by omega
            simp only [↓vp, vq0, vq1, vq2, vq3, vr0, vr1, vr2, vr3, vr4, vr5, vr6, vr7, vr8, vr9, vr10, vr11, vr12, vr13, vr14, vr15, vr16, vr17, vr18, vr19, vr20, vr21, vr22, vr23, vr24, vr25, vr26, vr27, vr28, vr29, vr30, vr31, vr32, vr33, vr34, opS, fpS, okP, pack, nAl, allocA, shId, leaves, fillA, fillR, splice, Nat.reduceLT, Nat.reduceEqDiff, Nat.reduceLeDiff, Nat.reduceAdd, Nat.reduceSub, Nat.reduceMul, Int.reduceBEq, Int.reduceBNe, Int.reduceLT, Int.reduceLE, Int.reduceEq, reduceIte, reduceCtorEq, da, int, boolA, RetP_go, resT, resC, resN, retV1, retV2, retV3, retV0, frzFZ, takeM, Option.some.injEq, List.length_append, n_take, n_take4, n_drop, n_drop3, n_onea, zna, g0, k46', e1, e2, k48, k50, o1, hk, hm, e3, atK hjl, cK hjl, ihk, w1, e4, g2, w2, rowsS, szS, hb]
            rw [if_pos (by omega), List.take_of_length_le (by simp; omega)]
            rfl
end Go.VI
