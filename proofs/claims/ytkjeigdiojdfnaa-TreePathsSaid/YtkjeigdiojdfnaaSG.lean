/- VI, part SG: down a tree. -/
import Derived.Test.YtkjeigdiojdfnaaSF
set_option linter.unusedVariables false
set_option linter.unusedSimpArgs false
set_option maxRecDepth 100000
namespace Go.VI
attribute [local congr] AW_congr OW_congr DW_congr NW_congr VW_congr GW_congr PW_congr KW_congr ite_congr' GV_congr CV_congr

/-- Down from a node, with so many steps yet. -/
def downM (kf : NodeM → Int) (l : List NamedM) : Nat → Int → List StepM → List StepM × Int
  | 0, _, _ => ([], 130)
  | d + 1, ref, acc =>
    if (nodeM l ref).2 ≠ 0 then ([], (nodeM l ref).2)
    else if (nodeM l ref).1.leaf = false ∧ (nodeM l ref).1.kids.length = 0 then ([], 131)
    else if (nodeM l ref).1.leaf then (acc ++ [⟨ref, (nodeM l ref).1, kf (nodeM l ref).1⟩], 0)
    else match (nodeM l ref).1.kids[(kf (nodeM l ref).1).toNat]? with
      | some x => downM kf l d x.ref (acc ++ [⟨ref, (nodeM l ref).1, kf (nodeM l ref).1⟩])
      | none => ([], 130)
/-- What a choice must be. -/
structure Choice (kv : AV) (kf : NodeM → Int) : Prop where
  call : ∀ (n : NodeM), okN n → n.items.length ≤ 1000 → ∀ (K : Heap) (L : List Blk) (Q : AV → Heap → Prop), KW ft kv [.agg (nodeC n)] (hx K L) Q ↔ Q (int (kf n)) (hx K L)
  free : ∀ n, pureV ft kv [.agg (nodeC n)] = true
  rng : ∀ n, okN n → n.leaf = false → 0 < n.kids.length → ∃ j : Nat, kf n = j ∧ j < n.kids.length

theorem n_take (n : NodeM) (l : List AV) : (nodeC n ++ l).take 3 = nodeC n := rfl
theorem n_drop (n : NodeM) (a : AV) : (nodeC n ++ [a]).drop 4 = [] := rfl
theorem n_take4 (n : NodeM) (a : AV) : (nodeC n ++ [a]).take 4 = nodeC n ++ [a] := rfl
theorem n_drop3 (n : NodeM) (a : AV) : (nodeC n ++ [a]).drop 3 = [a] := rfl
theorem n_onea (n : NodeM) (v : Value) : oneAll (nodeC n ++ [AV.sc v]) = true := rfl
theorem zna (m : Nat) (H : Heap) (n : NodeM) (k : Int) : frz.frzL (m + 6) H (nodeC n ++ [AV.sc (.int .i64 k)]) = some (nodeC n ++ [AV.sc (.int .i64 k)], H) := rfl
theorem n_fold (r k : Int) (n : NodeM) : (AV.sc (.int .i64 r) :: (nodeC n ++ [AV.sc (.int .i64 k)])) = stepC ⟨r, n, k⟩ := rfl
theorem l41 {kv : AV} {kf : NodeM → Int} (hk : Choice kv kf) (l : List NamedM) (hl : okL l) (ht : tinyL l) (T : List StepM × Int) {Q : AExit → Env → Heap → Prop}
   (hex : ∀ f' K, T = ([], 130) → Q (.exit 0) (mkE 59 f') (hx K []))
   (hret : ∀ f' K L S, Rep (hx K L) 5 S (T.1.map stepC) → f' 6 = S → f' 7 = int T.2 → Q .ret (mkE 59 f') (hx K L)) :
   ∀ (d : Nat) (ref : Int) (acc : List StepM) (S : AV) (K : Heap) (f : Nat → AV), d + acc.length = 12 → T = downM kf l d ref acc → Rep K 5 S (acc.map stepC) → f 0 = srcF l → f 2 = kv → f 8 = S → f 9 = int ref →
    AW ft (.loop c41L0) (mkE 59 f) (hx K []) Q := by
  intro d
  have lS' : ∀ {acc : List StepM} {S : AV} {K : Heap}, Rep K 5 S (acc.map stepC) → ∀ H, lenV H 0 S = some (int acc.length, H) := fun {acc S K} hr H => by
    rcases hr with ⟨rfl, hr⟩ | ⟨id, rfl, hr⟩
    · have : acc = [] := by simpa using hr
      subst this
      rfl
    · rw [lenV_sl]; simp [int]
  induction d with
  | zero =>
    intro ref acc S K f hd hc hr h0 h2 h8 h9
    have lS := lS' hr
    simp only [int] at lS
    have g : ((acc.length : Int) < 12) = False := eq_false (by omega)
    rw [AW_loop]
    unfold c41L0
    simp only [↓vp, vq0, vq1, vq2, vq3, vr0, vr1, vr2, vr3, vr4, vr5, vr6, vr7, vr8, vr9, vr10, vr11, vr12, vr13, vr14, vr15, vr16, vr17, vr18, vr19, vr20, vr21, vr22, vr23, vr24, vr25, vr26, vr27, vr28, vr29, vr30, vr31, vr32, vr33, vr34, opS, fpS, okP, pack, nAl, allocA, shId, leaves, fillA, fillR, splice, Nat.reduceLT, Nat.reduceEqDiff, Nat.reduceLeDiff, Nat.reduceAdd, Nat.reduceSub, Nat.reduceMul, Int.reduceBEq, Int.reduceBNe, Int.reduceLT, Int.reduceLE, Int.reduceEq, reduceIte, reduceCtorEq, da, int, boolA, h8, lS, g]
    exact hex _ _ hc
  | succ d ih =>
    intro ref acc S K f hd hc hr h0 h2 h8 h9
    have o1 := ok_node hl ref
    obtain ⟨t1, t2⟩ := tiny_node ht ref
    rw [AW_loop]
    unfold c41L0
    have k45' := fun K L Q => k45 (ref := ref) hl ht (K := K) (L := L) (Q := Q)
    simp only [int] at k45'
    have kc := hk.call _ o1 t1
    have kp := hk.free (nodeM l ref).1
    have lS := lS' hr
    simp only [int] at lS
    have g : ((acc.length : Int) < 12) = True := eq_true (by omega)
    rw [downM] at hc
    generalize nodeM l ref = p at *
    obtain ⟨n, er⟩ := p
    simp only at o1 t1 t2 kc kp k45' hc
    cases e1 : (er != 0) with
    | true =>
      have e1' : er ≠ 0 := by simpa using e1
      rw [if_pos e1'] at hc
      simp only [↓vp, vq0, vq1, vq2, vq3, vr0, vr1, vr2, vr3, vr4, vr5, vr6, vr7, vr8, vr9, vr10, vr11, vr12, vr13, vr14, vr15, vr16, vr17, vr18, vr19, vr20, vr21, vr22, vr23, vr24, vr25, vr26, vr27, vr28, vr29, vr30, vr31, vr32, vr33, vr34, opS, fpS, okP, pack, nAl, allocA, shId, leaves, fillA, fillR, splice, Nat.reduceLT, Nat.reduceEqDiff, Nat.reduceLeDiff, Nat.reduceAdd, Nat.reduceSub, Nat.reduceMul, Int.reduceBEq, Int.reduceBNe, Int.reduceLT, Int.reduceLE, Int.reduceEq, reduceIte, reduceCtorEq, da, int, boolA, h0, h2, h8, h9, lS, g, k45', e1]
      refine hret _ _ _ (.sc (.slice none 0 0)) ?_ ?_ ?_
      · rw [hc]; exact .inl ⟨rfl, rfl⟩
      · simp only [↓vp, vq0, vq1, vq2, vq3, vr0, vr1, vr2, vr3, vr4, vr5, vr6, vr7, vr8, vr9, vr10, vr11, vr12, vr13, vr14, vr15, vr16, vr17, vr18, vr19, vr20, vr21, vr22, vr23, vr24, vr25, vr26, vr27, vr28, vr29, vr30, vr31, vr32, vr33, vr34, opS, fpS, okP, pack, nAl, allocA, shId, leaves, fillA, fillR, splice, Nat.reduceLT, Nat.reduceEqDiff, Nat.reduceLeDiff, Nat.reduceAdd, Nat.reduceSub, Nat.reduceMul, Int.reduceBEq, Int.reduceBNe, Int.reduceLT, Int.reduceLE, Int.reduceEq, reduceIte, reduceCtorEq, da, int, boolA]
      · simp only [↓vp, vq0, vq1, vq2, vq3, vr0, vr1, vr2, vr3, vr4, vr5, vr6, vr7, vr8, vr9, vr10, vr11, vr12, vr13, vr14, vr15, vr16, vr17, vr18, vr19, vr20, vr21, vr22, vr23, vr24, vr25, vr26, vr27, vr28, vr29, vr30, vr31, vr32, vr33, vr34, opS, fpS, okP, pack, nAl, allocA, shId, leaves, fillA, fillR, splice, Nat.reduceLT, Nat.reduceEqDiff, Nat.reduceLeDiff, Nat.reduceAdd, Nat.reduceSub, Nat.reduceMul, Int.reduceBEq, Int.reduceBNe, Int.reduceLT, Int.reduceLE, Int.reduceEq, reduceIte, reduceCtorEq, da, int, boolA, hc]
    | false =>
      have e1' : ¬ er ≠ 0 := by simpa using e1
      rw [if_neg e1'] at hc
      have cat : ∀ (x : StepM), ((acc ++ [x]).map stepC) = acc.map stepC ++ [stepC x] := fun x => by rw [List.map_append]; rfl
      have ln : (acc.map stepC).length = acc.length := by simp
      have hb : (acc.length + 1) * 72 ≤ 140737488355328 := by omega
      cases e2 : n.leaf with
      | true =>
        rw [if_neg (by simp [e2]), if_pos e2] at hc
        rcases hr with ⟨rfl, hr⟩ | ⟨id, rfl, hr⟩
        · simp only [↓vp, vq0, vq1, vq2, vq3, vr0, vr1, vr2, vr3, vr4, vr5, vr6, vr7, vr8, vr9, vr10, vr11, vr12, vr13, vr14, vr15, vr16, vr17, vr18, vr19, vr20, vr21, vr22, vr23, vr24, vr25, vr26, vr27, vr28, vr29, vr30, vr31, vr32, vr33, vr34, opS, fpS, okP, pack, nAl, allocA, shId, leaves, fillA, fillR, splice, Nat.reduceLT, Nat.reduceEqDiff, Nat.reduceLeDiff, Nat.reduceAdd, Nat.reduceSub, Nat.reduceMul, Int.reduceBEq, Int.reduceBNe, Int.reduceLT, Int.reduceLE, Int.reduceEq, reduceIte, reduceCtorEq, da, int, boolA, List.length_append, n_take, n_take4, n_drop, n_drop3, n_onea, zna, h0, h2, h8, h9, lS, g, k45', e1, e2, kc, kp]
          refine hret _ _ _ (.sl (K.next + 3) 0 1) (.inr ⟨K.next + 3, ?_, ?_⟩) ?_ ?_
          · rw [hc, cat, hr]; rfl
          · rw [hc, cat, hr]
            simp only [↓vp, vq0, vq1, vq2, vq3, vr0, vr1, vr2, vr3, vr4, vr5, vr6, vr7, vr8, vr9, vr10, vr11, vr12, vr13, vr14, vr15, vr16, vr17, vr18, vr19, vr20, vr21, vr22, vr23, vr24, vr25, vr26, vr27, vr28, vr29, vr30, vr31, vr32, vr33, vr34, opS, fpS, okP, pack, nAl, allocA, shId, leaves, fillA, fillR, splice, Nat.reduceLT, Nat.reduceEqDiff, Nat.reduceLeDiff, Nat.reduceAdd, Nat.reduceSub, Nat.reduceMul, Int.reduceBEq, Int.reduceBNe, Int.reduceLT, Int.reduceLE, Int.reduceEq, reduceIte, reduceCtorEq]
            rfl
          · simp only [↓vp, vq0, vq1, vq2, vq3, vr0, vr1, vr2, vr3, vr4, vr5, vr6, vr7, vr8, vr9, vr10, vr11, vr12, vr13, vr14, vr15, vr16, vr17, vr18, vr19, vr20, vr21, vr22, vr23, vr24, vr25, vr26, vr27, vr28, vr29, vr30, vr31, vr32, vr33, vr34, opS, fpS, okP, pack, nAl, allocA, shId, leaves, fillA, fillR, splice, Nat.reduceLT, Nat.reduceEqDiff, Nat.reduceLeDiff, Nat.reduceAdd, Nat.reduceSub, Nat.reduceMul, Int.reduceBEq, Int.reduceBNe, Int.reduceLT, Int.reduceLE, Int.reduceEq, reduceIte, reduceCtorEq, da, int, boolA]
          · simp only [↓vp, vq0, vq1, vq2, vq3, vr0, vr1, vr2, vr3, vr4, vr5, vr6, vr7, vr8, vr9, vr10, vr11, vr12, vr13, vr14, vr15, vr16, vr17, vr18, vr19, vr20, vr21, vr22, vr23, vr24, vr25, vr26, vr27, vr28, vr29, vr30, vr31, vr32, vr33, vr34, opS, fpS, okP, pack, nAl, allocA, shId, leaves, fillA, fillR, splice, Nat.reduceLT, Nat.reduceEqDiff, Nat.reduceLeDiff, Nat.reduceAdd, Nat.reduceSub, Nat.reduceMul, Int.reduceBEq, Int.reduceBNe, Int.reduceLT, Int.reduceLE, Int.reduceEq, reduceIte, reduceCtorEq, da, int, boolA, hc]
        · have lid := Heap.get_lt hr
          have oid := fun L => hx_get_old K L id lid
          have pid := fun L b => hx_set_old K L b id lid
          simp only [↓vp, vq0, vq1, vq2, vq3, vr0, vr1, vr2, vr3, vr4, vr5, vr6, vr7, vr8, vr9, vr10, vr11, vr12, vr13, vr14, vr15, vr16, vr17, vr18, vr19, vr20, vr21, vr22, vr23, vr24, vr25, vr26, vr27, vr28, vr29, vr30, vr31, vr32, vr33, vr34, opS, fpS, okP, pack, nAl, allocA, shId, leaves, fillA, fillR, splice, Nat.reduceLT, Nat.reduceEqDiff, Nat.reduceLeDiff, Nat.reduceAdd, Nat.reduceSub, Nat.reduceMul, Int.reduceBEq, Int.reduceBNe, Int.reduceLT, Int.reduceLE, Int.reduceEq, reduceIte, reduceCtorEq, da, int, boolA, List.length_append, n_take, n_take4, n_drop, n_drop3, n_onea, zna, h0, h2, h8, h9, lS, g, k45', e1, e2, kc, kp, oid, pid, hr, ln, hb, List.take_of_length_le (Nat.le_of_eq ln)]
          refine hret _ _ _ (.sl (K.next + 3) 0 (acc.length + 1)) (.inr ⟨K.next + 3, ?_, ?_⟩) ?_ ?_
          · rw [hc, cat, List.length_append, ln]; rfl
          · rw [hc, cat]
            simp only [↓vp, vq0, vq1, vq2, vq3, vr0, vr1, vr2, vr3, vr4, vr5, vr6, vr7, vr8, vr9, vr10, vr11, vr12, vr13, vr14, vr15, vr16, vr17, vr18, vr19, vr20, vr21, vr22, vr23, vr24, vr25, vr26, vr27, vr28, vr29, vr30, vr31, vr32, vr33, vr34, opS, fpS, okP, pack, nAl, allocA, shId, leaves, fillA, fillR, splice, Nat.reduceLT, Nat.reduceEqDiff, Nat.reduceLeDiff, Nat.reduceAdd, Nat.reduceSub, Nat.reduceMul, Int.reduceBEq, Int.reduceBNe, Int.reduceLT, Int.reduceLE, Int.reduceEq, reduceIte, reduceCtorEq]
            rfl
          · simp only [↓vp, vq0, vq1, vq2, vq3, vr0, vr1, vr2, vr3, vr4, vr5, vr6, vr7, vr8, vr9, vr10, vr11, vr12, vr13, vr14, vr15, vr16, vr17, vr18, vr19, vr20, vr21, vr22, vr23, vr24, vr25, vr26, vr27, vr28, vr29, vr30, vr31, vr32, vr33, vr34, opS, fpS, okP, pack, nAl, allocA, shId, leaves, fillA, fillR, splice, Nat.reduceLT, Nat.reduceEqDiff, Nat.reduceLeDiff, Nat.reduceAdd, Nat.reduceSub, Nat.reduceMul, Int.reduceBEq, Int.reduceBNe, Int.reduceLT, Int.reduceLE, Int.reduceEq, reduceIte, reduceCtorEq, da, int, boolA]
          · simp only [↓vp, vq0, vq1, vq2, vq3, vr0, vr1, vr2, vr3, vr4, vr5, vr6, vr7, vr8, vr9, vr10, vr11, vr12, vr13, vr14, vr15, vr16, vr17, vr18, vr19, vr20, vr21, vr22, vr23, vr24, vr25, vr26, vr27, vr28, vr29, vr30, vr31, vr32, vr33, vr34, opS, fpS, okP, pack, nAl, allocA, shId, leaves, fillA, fillR, splice, Nat.reduceLT, Nat.reduceEqDiff, Nat.reduceLeDiff, Nat.reduceAdd, Nat.reduceSub, Nat.reduceMul, Int.reduceBEq, Int.reduceBNe, Int.reduceLT, Int.reduceLE, Int.reduceEq, reduceIte, reduceCtorEq, da, int, boolA, hc]
      | false =>
        cases e3 : ((n.kids.length : Int) == 0) with
        | true =>
          have e3' : n.kids.length = 0 := by simpa using e3
          rw [if_pos ⟨e2, e3'⟩] at hc
          simp only [↓vp, vq0, vq1, vq2, vq3, vr0, vr1, vr2, vr3, vr4, vr5, vr6, vr7, vr8, vr9, vr10, vr11, vr12, vr13, vr14, vr15, vr16, vr17, vr18, vr19, vr20, vr21, vr22, vr23, vr24, vr25, vr26, vr27, vr28, vr29, vr30, vr31, vr32, vr33, vr34, opS, fpS, okP, pack, nAl, allocA, shId, leaves, fillA, fillR, splice, Nat.reduceLT, Nat.reduceEqDiff, Nat.reduceLeDiff, Nat.reduceAdd, Nat.reduceSub, Nat.reduceMul, Int.reduceBEq, Int.reduceBNe, Int.reduceLT, Int.reduceLE, Int.reduceEq, reduceIte, reduceCtorEq, da, int, boolA, h0, h2, h8, h9, lS, g, k45', e1, e2, e3]
          refine hret _ _ _ (.sc (.slice none 0 0)) ?_ ?_ ?_
          · rw [hc]; exact .inl ⟨rfl, rfl⟩
          · simp only [↓vp, vq0, vq1, vq2, vq3, vr0, vr1, vr2, vr3, vr4, vr5, vr6, vr7, vr8, vr9, vr10, vr11, vr12, vr13, vr14, vr15, vr16, vr17, vr18, vr19, vr20, vr21, vr22, vr23, vr24, vr25, vr26, vr27, vr28, vr29, vr30, vr31, vr32, vr33, vr34, opS, fpS, okP, pack, nAl, allocA, shId, leaves, fillA, fillR, splice, Nat.reduceLT, Nat.reduceEqDiff, Nat.reduceLeDiff, Nat.reduceAdd, Nat.reduceSub, Nat.reduceMul, Int.reduceBEq, Int.reduceBNe, Int.reduceLT, Int.reduceLE, Int.reduceEq, reduceIte, reduceCtorEq, da, int, boolA]
          · simp only [↓vp, vq0, vq1, vq2, vq3, vr0, vr1, vr2, vr3, vr4, vr5, vr6, vr7, vr8, vr9, vr10, vr11, vr12, vr13, vr14, vr15, vr16, vr17, vr18, vr19, vr20, vr21, vr22, vr23, vr24, vr25, vr26, vr27, vr28, vr29, vr30, vr31, vr32, vr33, vr34, opS, fpS, okP, pack, nAl, allocA, shId, leaves, fillA, fillR, splice, Nat.reduceLT, Nat.reduceEqDiff, Nat.reduceLeDiff, Nat.reduceAdd, Nat.reduceSub, Nat.reduceMul, Int.reduceBEq, Int.reduceBNe, Int.reduceLT, Int.reduceLE, Int.reduceEq, reduceIte, reduceCtorEq, da, int, boolA, hc]
        | false =>
          have e3' : n.kids.length ≠ 0 := by simpa using e3
          rw [if_neg (by simp [e3']), if_neg (by simp [e2])] at hc
          obtain ⟨j, hj, hjl⟩ := hk.rng n o1 e2 (by omega)
          rw [hj, Int.toNat_natCast, List.getElem?_eq_getElem hjl] at hc
          simp only at hc
          rcases hr with ⟨rfl, hr⟩ | ⟨id, rfl, hr⟩
          · simp only [↓vp, vq0, vq1, vq2, vq3, vr0, vr1, vr2, vr3, vr4, vr5, vr6, vr7, vr8, vr9, vr10, vr11, vr12, vr13, vr14, vr15, vr16, vr17, vr18, vr19, vr20, vr21, vr22, vr23, vr24, vr25, vr26, vr27, vr28, vr29, vr30, vr31, vr32, vr33, vr34, opS, fpS, okP, pack, nAl, allocA, shId, leaves, fillA, fillR, splice, Nat.reduceLT, Nat.reduceEqDiff, Nat.reduceLeDiff, Nat.reduceAdd, Nat.reduceSub, Nat.reduceMul, Int.reduceBEq, Int.reduceBNe, Int.reduceLT, Int.reduceLE, Int.reduceEq, reduceIte, reduceCtorEq, da, int, boolA, List.length_append, n_take, n_take4, n_drop, n_drop3, n_onea, zna, h0, h2, h8, h9, lS, g, k45', e1, e2, e3, kc, kp, hj, atK hjl, cK hjl]
            rw [← hx_nil (hx K _)]
            refine ih _ _ (.sl (K.next + 3) 0 1) _ _ (by simp; omega) hc (.inr ⟨K.next + 3, ?_, ?_⟩) ?_ ?_ ?_ ?_
            · rw [cat, hr]; rfl
            · rw [cat, hr]
              simp only [↓vp, vq0, vq1, vq2, vq3, vr0, vr1, vr2, vr3, vr4, vr5, vr6, vr7, vr8, vr9, vr10, vr11, vr12, vr13, vr14, vr15, vr16, vr17, vr18, vr19, vr20, vr21, vr22, vr23, vr24, vr25, vr26, vr27, vr28, vr29, vr30, vr31, vr32, vr33, vr34, opS, fpS, okP, pack, nAl, allocA, shId, leaves, fillA, fillR, splice, Nat.reduceLT, Nat.reduceEqDiff, Nat.reduceLeDiff, Nat.reduceAdd, Nat.reduceSub, Nat.reduceMul, Int.reduceBEq, Int.reduceBNe, Int.reduceLT, Int.reduceLE, Int.reduceEq, reduceIte, reduceCtorEq]
              rfl
            all_goals simp only [↓vp, vq0, vq1, vq2, vq3, vr0, vr1, vr2, vr3, vr4, vr5, vr6, vr7, vr8, vr9, vr10, vr11, vr12, vr13, vr14, vr15, vr16, vr17, vr18, vr19, vr20, vr21, vr22, vr23, vr24, vr25, vr26, vr27, vr28, vr29, vr30, vr31, vr32, vr33, vr34, opS, fpS, okP, pack, nAl, allocA, shId, leaves, fillA, fillR, splice, Nat.reduceLT, Nat.reduceEqDiff, Nat.reduceLeDiff, Nat.reduceAdd, Nat.reduceSub, Nat.reduceMul, Int.reduceBEq, Int.reduceBNe, Int.reduceLT, Int.reduceLE, Int.reduceEq, reduceIte, reduceCtorEq, da, int, boolA, h0, h2]
          · have lid := Heap.get_lt hr
            have oid := fun L => hx_get_old K L id lid
            have pid := fun L b => hx_set_old K L b id lid
            simp only [↓vp, vq0, vq1, vq2, vq3, vr0, vr1, vr2, vr3, vr4, vr5, vr6, vr7, vr8, vr9, vr10, vr11, vr12, vr13, vr14, vr15, vr16, vr17, vr18, vr19, vr20, vr21, vr22, vr23, vr24, vr25, vr26, vr27, vr28, vr29, vr30, vr31, vr32, vr33, vr34, opS, fpS, okP, pack, nAl, allocA, shId, leaves, fillA, fillR, splice, Nat.reduceLT, Nat.reduceEqDiff, Nat.reduceLeDiff, Nat.reduceAdd, Nat.reduceSub, Nat.reduceMul, Int.reduceBEq, Int.reduceBNe, Int.reduceLT, Int.reduceLE, Int.reduceEq, reduceIte, reduceCtorEq, da, int, boolA, List.length_append, n_take, n_take4, n_drop, n_drop3, n_onea, zna, h0, h2, h8, h9, lS, g, k45', e1, e2, e3, kc, kp, oid, pid, hr, ln, hb, List.take_of_length_le (Nat.le_of_eq ln), hj, atK hjl, cK hjl]
            rw [← hx_nil (hx _ _)]
            refine ih _ _ (.sl (K.next + 3) 0 (acc.length + 1)) _ _ (by simp; omega) hc (.inr ⟨K.next + 3, ?_, ?_⟩) ?_ ?_ ?_ ?_
            · rw [cat, List.length_append, ln]; rfl
            · rw [cat]
              simp only [↓vp, vq0, vq1, vq2, vq3, vr0, vr1, vr2, vr3, vr4, vr5, vr6, vr7, vr8, vr9, vr10, vr11, vr12, vr13, vr14, vr15, vr16, vr17, vr18, vr19, vr20, vr21, vr22, vr23, vr24, vr25, vr26, vr27, vr28, vr29, vr30, vr31, vr32, vr33, vr34, opS, fpS, okP, pack, nAl, allocA, shId, leaves, fillA, fillR, splice, Nat.reduceLT, Nat.reduceEqDiff, Nat.reduceLeDiff, Nat.reduceAdd, Nat.reduceSub, Nat.reduceMul, Int.reduceBEq, Int.reduceBNe, Int.reduceLT, Int.reduceLE, Int.reduceEq, reduceIte, reduceCtorEq]
              rfl
            all_goals simp only [↓vp, vq0, vq1, vq2, vq3, vr0, vr1, vr2, vr3, vr4, vr5, vr6, vr7, vr8, vr9, vr10, vr11, vr12, vr13, vr14, vr15, vr16, vr17, vr18, vr19, vr20, vr21, vr22, vr23, vr24, vr25, vr26, vr27, vr28, vr29, vr30, vr31, vr32, vr33, vr34, opS, fpS, okP, pack, nAl, allocA, shId, leaves, fillA, fillR, splice, Nat.reduceLT, Nat.reduceEqDiff, Nat.reduceLeDiff, Nat.reduceAdd, Nat.reduceSub, Nat.reduceMul, Int.reduceBEq, Int.reduceBNe, Int.reduceLT, Int.reduceLE, Int.reduceEq, reduceIte, reduceCtorEq, da, int, boolA, h0, h2]
/-- A whole way: none where an error is told. -/
def wayM (kf : NodeM → Int) (l : List NamedM) (root : Int) : List StepM × Int := downM kf l 12 root []
theorem frz_rep {K : Heap} {L : List Blk} {sz : Nat} {S : AV} {rows : List (List AV)} (h : Rep (hx K L) sz S rows) (n : Nat) : ∃ K', frz (n + 1) (hx K L) S = some (.lst rows, K') := by
  rcases h with ⟨rfl, rfl⟩ | ⟨id, rfl, h⟩
  · exact ⟨_, rfl⟩
  · refine ⟨(hx K L).set id (.row true sz rows), ?_⟩
    rw [frz_sl, h]
    simp
theorem s41 {kv : AV} {kf : NodeM → Int} (hk : Choice kv kf) (l : List NamedM) (hl : okL l) (ht : tinyL l) (root : Int) {args : List AV} {H H1 : Heap} (hfz : frzCells H args = some ([srcF l, int root, kv], H1)) :
    callL ft (.fn (.func 41) [] []) args H = some (.tup [encS (wayM kf l root).1, int (wayM kf l root).2], H1) := by
  refine call_p (as' := [srcF l, int root, kv]) rfl (by simpa using hfz) (by simp) ?_
  unfold c41 r41
  have hn : isnilA 3 (srcF l) = some false := rfl
  simp only [↓vp, vq0, vq1, vq2, vq3, vr0, vr1, vr2, vr3, vr4, vr5, vr6, vr7, vr8, vr9, vr10, vr11, vr12, vr13, vr14, vr15, vr16, vr17, vr18, vr19, vr20, vr21, vr22, vr23, vr24, vr25, vr26, vr27, vr28, vr29, vr30, vr31, vr32, vr33, vr34, opS, fpS, okP, pack, nAl, allocA, shId, leaves, fillA, fillR, splice, Nat.reduceLT, Nat.reduceEqDiff, Nat.reduceLeDiff, Nat.reduceAdd, Nat.reduceSub, Nat.reduceMul, Int.reduceBEq, Int.reduceBNe, Int.reduceLT, Int.reduceLE, Int.reduceEq, reduceIte, reduceCtorEq, da, int, boolA, hn]
  refine l41 hk l hl ht (wayM kf l root) (fun f' K hT => ?_) (fun f' K L S hr h6 h7 => ?_) 12 root [] (.sc (.slice none 0 0)) _ _ rfl rfl (.inl ⟨rfl, rfl⟩) ?_ ?_ ?_ ?_
  · unfold c41R1
    simp only [↓vp, vq0, vq1, vq2, vq3, vr0, vr1, vr2, vr3, vr4, vr5, vr6, vr7, vr8, vr9, vr10, vr11, vr12, vr13, vr14, vr15, vr16, vr17, vr18, vr19, vr20, vr21, vr22, vr23, vr24, vr25, vr26, vr27, vr28, vr29, vr30, vr31, vr32, vr33, vr34, opS, fpS, okP, pack, nAl, allocA, shId, leaves, fillA, fillR, splice, Nat.reduceLT, Nat.reduceEqDiff, Nat.reduceLeDiff, Nat.reduceAdd, Nat.reduceSub, Nat.reduceMul, Int.reduceBEq, Int.reduceBNe, Int.reduceLT, Int.reduceLE, Int.reduceEq, reduceIte, reduceCtorEq, da, int, boolA, RetP_go, resT, resC, resN, retV1, retV2, retV3, retV0, frzFZ, takeM, Option.some.injEq, hT]
    rfl
  · obtain ⟨K', hK'⟩ := frz_rep hr 21
    simp only [↓vp, vq0, vq1, vq2, vq3, vr0, vr1, vr2, vr3, vr4, vr5, vr6, vr7, vr8, vr9, vr10, vr11, vr12, vr13, vr14, vr15, vr16, vr17, vr18, vr19, vr20, vr21, vr22, vr23, vr24, vr25, vr26, vr27, vr28, vr29, vr30, vr31, vr32, vr33, vr34, opS, fpS, okP, pack, nAl, allocA, shId, leaves, fillA, fillR, splice, Nat.reduceLT, Nat.reduceEqDiff, Nat.reduceLeDiff, Nat.reduceAdd, Nat.reduceSub, Nat.reduceMul, Int.reduceBEq, Int.reduceBNe, Int.reduceLT, Int.reduceLE, Int.reduceEq, reduceIte, reduceCtorEq, da, int, boolA, RetP_go, resT, resC, resN, retV1, retV2, retV3, retV0, frzFZ, takeM, Option.some.injEq, h6, h7, hK']
    rfl
  all_goals first | rfl | (simp only [↓vp, vq0, vq1, vq2, vq3, vr0, vr1, vr2, vr3, vr4, vr5, vr6, vr7, vr8, vr9, vr10, vr11, vr12, vr13, vr14, vr15, vr16, vr17, vr18, vr19, vr20, vr21, vr22, vr23, vr24, vr25, vr26, vr27, vr28, vr29, vr30, vr31, vr32, vr33, vr34, opS, fpS, okP, pack, nAl, allocA, shId, leaves, fillA, fillR, splice, Nat.reduceLT, Nat.reduceEqDiff, Nat.reduceLeDiff, Nat.reduceAdd, Nat.reduceSub, Nat.reduceMul, Int.reduceBEq, Int.reduceBNe, Int.reduceLT, Int.reduceLE, Int.reduceEq, reduceIte, reduceCtorEq, da, int, boolA]; done)
end Go.VI
