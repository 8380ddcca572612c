/- VI, part SK: Get. -/
import Derived.Test.YtkjeigdiojdfnaaSJ
set_option linter.unusedVariables false
set_option linter.unusedSimpArgs false
set_option maxRecDepth 100000
namespace Go.VI
attribute [local congr] AW_congr OW_congr DW_congr NW_congr VW_congr GW_congr PW_congr KW_congr ite_congr' GV_congr CV_congr

theorem downM_spec (kf : NodeM → Int) (l : List NamedM) (hl : okL l) (ht : tinyL l) : ∀ (d : Nat) (ref : Int) (acc : List StepM), okS acc → (∀ x ∈ acc, x.k = kf x.n) →
    okS (downM kf l d ref acc).1 ∧ (∀ x ∈ (downM kf l d ref acc).1, x.k = kf x.n) ∧ ((downM kf l d ref acc).2 = 0 → (downM kf l d ref acc).1 ≠ []) ∧ (downM kf l d ref acc).1.length ≤ acc.length + d
  | 0, ref, acc, h, hk => by simp [downM, okS]
  | d + 1, ref, acc, h, hk => by
    rw [downM]
    have o := ok_node hl ref
    have t := tiny_node ht ref
    have h' : okS (acc ++ [⟨ref, (nodeM l ref).1, kf (nodeM l ref).1⟩]) := fun x hx => by
      rcases List.mem_append.1 hx with hx | hx
      · exact h x hx
      · rw [List.mem_singleton] at hx
        subst hx
        exact ⟨o, t⟩
    have hk' : ∀ x ∈ acc ++ [⟨ref, (nodeM l ref).1, kf (nodeM l ref).1⟩], x.k = kf x.n := fun x hx => by
      rcases List.mem_append.1 hx with hx | hx
      · exact hk x hx
      · rw [List.mem_singleton] at hx
        subst hx
        rfl
    split
    · rename_i he
      exact ⟨by simp [okS], by simp, fun h0 => absurd h0 he, by simp⟩
    · split
      · simp [okS]
      · split
        · exact ⟨h', hk', fun _ => by simp, by simp⟩
        · split
          · rename_i x _
            obtain ⟨a, b, c, e⟩ := downM_spec kf l hl ht d x.ref _ h' hk'
            exact ⟨a, b, c, by simp at e; omega⟩
          · simp [okS]
theorem wayM_spec (kf : NodeM → Int) (l : List NamedM) (hl : okL l) (ht : tinyL l) (root : Int) : okS (wayM kf l root).1 ∧ (∀ x ∈ (wayM kf l root).1, x.k = kf x.n) ∧ ((wayM kf l root).2 = 0 → (wayM kf l root).1 ≠ []) ∧ (wayM kf l root).1.length ≤ 12 := by
  have := downM_spec kf l hl ht 12 root [] (by simp [okS]) (by simp)
  simpa [wayM] using this

theorem pathK_nat (key : Bytes) (n : NodeM) : ∃ j : Nat, pathK key n = j := by
  unfold pathK
  split
  · exact ⟨_, rfl⟩
  · exact ⟨_, rfl⟩
def noItem : ItemM := ⟨[], [], 0, 0⟩
/-- A key's item. -/
def getM (l : List NamedM) (root : Int) (key : Bytes) : ItemM × Bool × Int :=
  if (wayM (pathK key) l root).2 ≠ 0 then (noItem, false, (wayM (pathK key) l root).2)
  else match (wayM (pathK key) l root).1.getLast? with
    | none => (noItem, false, 0)
    | some s => match s.n.items[s.k.toNat]? with
      | some x => if cmpB x.key key = 0 then (x, true, 0) else (noItem, false, 0)
      | none => (noItem, false, 0)
theorem k16 {l : List NamedM} (hl : okL l) (ht : tinyL l) {root : Int} {key : Bytes} (hk : okB key) {K : Heap} {L : List Blk} {Q : AV → Heap → Prop} :
    KW ft (.fn (.func 16) [] []) [srcF l, int root, encB key] (hx K L) Q ↔ Q (.tup [encS (wayM (pathK key) l root).1, int (wayM (pathK key) l root).2]) (hx K L) := KW_of (s16 l hl ht root key hk _)
theorem s24 (l : List NamedM) (hl : okL l) (ht : tinyL l) (root : Int) (key : Bytes) (hk : okB key) (H : Heap) :
    callL ft (.fn (.func 24) [] []) [srcF l, int root, encB key] H = some (.tup [.agg (itemC (getM l root key).1), boolA (getM l root key).2.1, int (getM l root key).2.2], H) := by
  obtain ⟨w1, w2, w3, w4⟩ := wayM_spec (pathK key) l hl ht root
  have q := fun K L Q => k16 (root := root) hl ht hk (K := K) (L := L) (Q := Q)
  simp only [int] at q
  refine call_p (as' := [srcF l, int root, encB key]) rfl rfl (by simp) ?_
  unfold c24 r24
  unfold getM
  generalize wayM (pathK key) l root = p at *
  obtain ⟨st, er⟩ := p
  simp only at w1 w2 w3 w4 q ⊢
  cases e1 : (er != 0) with
  | true =>
    have e1' : er ≠ 0 := by simpa using e1
    rw [if_pos e1']
    simp only [↓vp, vq0, vq1, vq2, vq3, vr0, vr1, vr2, vr3, vr4, vr5, vr6, vr7, vr8, vr9, vr10, vr11, vr12, vr13, vr14, vr15, vr16, vr17, vr18, vr19, vr20, vr21, vr22, vr23, vr24, vr25, vr26, vr27, vr28, vr29, vr30, vr31, vr32, vr33, vr34, opS, fpS, okP, pack, nAl, allocA, shId, leaves, fillA, fillR, splice, Nat.reduceLT, Nat.reduceEqDiff, Nat.reduceLeDiff, Nat.reduceAdd, Nat.reduceSub, Nat.reduceMul, Int.reduceBEq, Int.reduceBNe, Int.reduceLT, Int.reduceLE, Int.reduceEq, reduceIte, reduceCtorEq, da, int, boolA, RetP_go, resT, resC, resN, retV1, retV2, retV3, retV0, frzFZ, takeM, Option.some.injEq, q, e1, noItem]
    rfl
  | false =>
    have e1' : er = 0 := by simpa using e1
    subst e1'
    rw [if_neg (by simp)]
    have hne := w3 rfl
    have hpos : 0 < st.length := List.length_pos_iff.2 hne
    have hjl : st.length - 1 < st.length := by omega
    rw [List.getLast?_eq_getElem?, List.getElem?_eq_getElem hjl]
    have w5 : IntKind.i64.wrap ((st.length : Int) - 1) = ((st.length - 1 : Nat) : Int) := by rw [wrap_i64 (by omega)]; omega
    obtain ⟨o1, t1, t2⟩ := w1 _ (List.getElem_mem hjl)
    obtain ⟨j, hj⟩ := pathK_nat key st[st.length - 1].n
    have hk2 := w2 _ (List.getElem_mem hjl)
    rw [hj] at hk2
    simp only [hk2, Int.toNat_natCast]
    by_cases g : j < st[st.length - 1].n.items.length
    · have g1 : ((st[st.length - 1].n.items.length : Int) ≤ j) = False := eq_false (by omega)
      have o2 := (o1.i.at_ g).k
      rw [List.getElem?_eq_getElem g]
      simp only
      cases e2 : cmpB st[st.length - 1].n.items[j].key key != 0 with
      | true =>
        have e2' : ¬ cmpB st[st.length - 1].n.items[j].key key = 0 := by simpa using e2
        rw [if_neg e2']
        simp only [↓vp, vq0, vq1, vq2, vq3, vr0, vr1, vr2, vr3, vr4, vr5, vr6, vr7, vr8, vr9, vr10, vr11, vr12, vr13, vr14, vr15, vr16, vr17, vr18, vr19, vr20, vr21, vr22, vr23, vr24, vr25, vr26, vr27, vr28, vr29, vr30, vr31, vr32, vr33, vr34, opS, fpS, okP, pack, nAl, allocA, shId, leaves, fillA, fillR, splice, Nat.reduceLT, Nat.reduceEqDiff, Nat.reduceLeDiff, Nat.reduceAdd, Nat.reduceSub, Nat.reduceMul, Int.reduceBEq, Int.reduceBNe, Int.reduceLT, Int.reduceLE, Int.reduceEq, reduceIte, reduceCtorEq, da, int, boolA, RetP_go, resT, resC, resN, retV1, retV2, retV3, retV0, frzFZ, takeM, Option.some.injEq, q, e1, w5, atS hjl, cS hjl, hk2, g1, atI g, cI g, k40, o2, hk, e2]
        rfl
      | false =>
        have e2' : cmpB st[st.length - 1].n.items[j].key key = 0 := by simpa using e2
        rw [if_pos e2']
        simp only [↓vp, vq0, vq1, vq2, vq3, vr0, vr1, vr2, vr3, vr4, vr5, vr6, vr7, vr8, vr9, vr10, vr11, vr12, vr13, vr14, vr15, vr16, vr17, vr18, vr19, vr20, vr21, vr22, vr23, vr24, vr25, vr26, vr27, vr28, vr29, vr30, vr31, vr32, vr33, vr34, opS, fpS, okP, pack, nAl, allocA, shId, leaves, fillA, fillR, splice, Nat.reduceLT, Nat.reduceEqDiff, Nat.reduceLeDiff, Nat.reduceAdd, Nat.reduceSub, Nat.reduceMul, Int.reduceBEq, Int.reduceBNe, Int.reduceLT, Int.reduceLE, Int.reduceEq, reduceIte, reduceCtorEq, da, int, boolA, RetP_go, resT, resC, resN, retV1, retV2, retV3, retV0, frzFZ, takeM, Option.some.injEq, q, e1, w5, atS hjl, cS hjl, hk2, g1, atI g, cI g, k40, o2, hk, e2]
    · have g1 : ((st[st.length - 1].n.items.length : Int) ≤ j) = True := eq_true (by omega)
      rw [List.getElem?_eq_none (by omega)]
      simp only [↓vp, vq0, vq1, vq2, vq3, vr0, vr1, vr2, vr3, vr4, vr5, vr6, vr7, vr8, vr9, vr10, vr11, vr12, vr13, vr14, vr15, vr16, vr17, vr18, vr19, vr20, vr21, vr22, vr23, vr24, vr25, vr26, vr27, vr28, vr29, vr30, vr31, vr32, vr33, vr34, opS, fpS, okP, pack, nAl, allocA, shId, leaves, fillA, fillR, splice, Nat.reduceLT, Nat.reduceEqDiff, Nat.reduceLeDiff, Nat.reduceAdd, Nat.reduceSub, Nat.reduceMul, Int.reduceBEq, Int.reduceBNe, Int.reduceLT, Int.reduceLE, Int.reduceEq, reduceIte, reduceCtorEq, da, int, boolA, RetP_go, resT, resC, resN, retV1, retV2, retV3, retV0, frzFZ, takeM, Option.some.injEq, q, e1, w5, atS hjl, cS hjl, hk2, g1]
      rfl
end Go.VI
