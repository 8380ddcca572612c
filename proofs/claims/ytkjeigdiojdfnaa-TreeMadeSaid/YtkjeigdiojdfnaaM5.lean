import Derived.Test.YtkjeigdiojdfnaaM4
/- VI, part SK: Get. -/
set_option linter.unusedVariables false
set_option linter.unusedSimpArgs false
set_option maxRecDepth 100000
namespace Go.VI
attribute [local congr] AW_congr OW_congr DW_congr NW_congr VW_congr GW_congr PW_congr KW_congr ite_congr' GV_congr CV_congr

theorem downM_spec (kf : NodeM → Int) (l : List NamedM) (hl : okL l) (ht : tinyL l) : ∀ (d : Nat) (ref : Int) (acc : List StepM), okS acc → (∀ x ∈ acc, x.k = kf x.n) →
    okS (downM kf l d ref acc).1 ∧ (∀ x ∈ (downM kf l d ref acc).1, x.k = kf x.n) ∧ ((downM kf l d ref acc).2 = 0 → (downM kf l d ref acc).1 ≠ []) ∧ (downM kf l d ref acc).1.length ≤ acc.length + d
  | 0, ref, acc, h, hk => by simp [downM, okS]
  | d + 1, ref, acc, h, hk => by
    rw [downM]
    have o := ok_node hl ref
    have t := tiny_node ht ref
    have h' : okS (acc ++ [⟨ref, (nodeM l ref).1, kf (nodeM l ref).1⟩]) := fun x hx => by
      rcases List.mem_append.1 hx with hx | hx
      · exact h x hx
      · rw [List.mem_singleton] at hx
        subst hx
        exact ⟨o, t⟩
    have hk' : ∀ x ∈ acc ++ [⟨ref, (nodeM l ref).1, kf (nodeM l ref).1⟩], x.k = kf x.n := fun x hx => by
      rcases List.mem_append.1 hx with hx | hx
      · exact hk x hx
      · rw [List.mem_singleton] at hx
        subst hx
        rfl
    split
    · rename_i he
      exact ⟨by simp [okS], by simp, fun h0 => absurd h0 he, by simp⟩
    · split
      · simp [okS]
      · split
        · exact ⟨h', hk', fun _ => by simp, by simp⟩
        · split
          · rename_i x _
            obtain ⟨a, b, c, e⟩ := downM_spec kf l hl ht d x.ref _ h' hk'
            exact ⟨a, b, c, by simp at e; omega⟩
          · simp [okS]
theorem wayM_spec (kf : NodeM → Int) (l : List NamedM) (hl : okL l) (ht : tinyL l) (root : Int) : okS (wayM kf l root).1 ∧ (∀ x ∈ (wayM kf l root).1, x.k = kf x.n) ∧ ((wayM kf l root).2 = 0 → (wayM kf l root).1 ≠ []) ∧ (wayM kf l root).1.length ≤ 12 := by
  have := downM_spec kf l hl ht 12 root [] (by simp [okS]) (by simp)
  simpa [wayM] using this

theorem pathK_nat (key : Bytes) (n : NodeM) : ∃ j : Nat, pathK key n = j := by
  unfold pathK
  split
  · exact ⟨_, rfl⟩
  · exact ⟨_, rfl⟩
def noItem : ItemM := ⟨[], [], 0, 0⟩
/-- A key's item. -/
def getM (l : List NamedM) (root : Int) (key : Bytes) : ItemM × Bool × Int :=
  if (wayM (pathK key) l root).2 ≠ 0 then (noItem, false, (wayM (pathK key) l root).2)
  else match (wayM (pathK key) l root).1.getLast? with
    | none => (noItem, false, 0)
    | some s => match s.n.items[s.k.toNat]? with
      | some x => if cmpB x.key key = 0 then (x, true, 0) else (noItem, false, 0)
      | none => (noItem, false, 0)
theorem k16 {l : List NamedM} (hl : okL l) (ht : tinyL l) {root : Int} {key : Bytes} (hk : okB key) {K : Heap} {L : List Blk} {Q : AV → Heap → Prop} :
    KW ft (.fn (.func 16) [] []) [srcF l, int root, encB key] (hx K L) Q ↔ Q (.tup [encS (wayM (pathK key) l root).1, int (wayM (pathK key) l root).2]) (hx K L) := KW_of (s16 l hl ht root key hk _)
theorem s24 (l : List NamedM) (hl : okL l) (ht : tinyL l) (root : Int) (key : Bytes) (hk : okB key) (H : Heap) :
    callL ft (.fn (.func 24) [] []) [srcF l, int root, encB key] H = some (.tup [.agg (itemC (getM l root key).1), boolA (getM l root key).2.1, int (getM l root key).2.2], H) := by
  obtain ⟨w1, w2, w3, w4⟩ := wayM_spec (pathK key) l hl ht root
  have q := fun K L Q => k16 (root := root) hl ht hk (K := K) (L := L) (Q := Q)
  simp only [int] at q
  refine call_p (as' := [srcF l, int root, encB key]) rfl rfl (by simp) ?_
  unfold c24 r24
  unfold getM
  generalize wayM (pathK key) l root = p at *
  obtain ⟨st, er⟩ := p
  simp only at w1 w2 w3 w4 q ⊢
  cases e1 : (er != 0) with
  | true =>
    have e1' : er ≠ 0 := by simpa using e1
    rw [if_pos e1']
    simp only [↓vp, vq0, vq1, vq2, vq3, vr0, vr1, vr2, vr3, vr4, vr5, vr6, vr7, vr8, vr9, vr10, vr11, vr12, vr13, vr14, vr15, vr16, vr17, vr18, vr19, vr20, vr21, vr22, vr23, vr24, vr25, vr26, vr27, vr28, vr29, vr30, vr31, vr32, vr33, vr34, opS, fpS, okP, pack, nAl, allocA, shId, leaves, fillA, fillR, splice, Nat.reduceLT, Nat.reduceEqDiff, Nat.reduceLeDiff, Nat.reduceAdd, Nat.reduceSub, Nat.reduceMul, Int.reduceBEq, Int.reduceBNe, Int.reduceLT, Int.reduceLE, Int.reduceEq, reduceIte, reduceCtorEq, da, int, boolA, RetP_go, resT, resC, resN, retV1, retV2, retV3, retV0, frzFZ, takeM, Option.some.injEq, q, e1, noItem]
    rfl
  | false =>
    have e1' : er = 0 := by simpa using e1
    subst e1'
    rw [if_neg (by simp)]
    have hne := w3 rfl
    have hpos : 0 < st.length := List.length_pos_iff.2 hne
    have hjl : st.length - 1 < st.length := by omega
    rw [List.getLast?_eq_getElem?, List.getElem?_eq_getElem hjl]
    have w5 : IntKind.i64.wrap ((st.length : Int) - 1) = ((st.length - 1 : Nat) : Int) := by rw [wrap_i64 (by omega)]; omega
    obtain ⟨o1, t1, t2⟩ := w1 _ (List.getElem_mem hjl)
    obtain ⟨j, hj⟩ := pathK_nat key st[st.length - 1].n
    have hk2 := w2 _ (List.getElem_mem hjl)
    rw [hj] at hk2
    simp only [hk2, Int.toNat_natCast]
    by_cases g : j < st[st.length - 1].n.items.length
    · have g1 : ((st[st.length - 1].n.items.length : Int) ≤ j) = False := eq_false (by omega)
      have o2 := (o1.i.at_ g).k
      rw [List.getElem?_eq_getElem g]
      simp only
      cases e2 : cmpB st[st.length - 1].n.items[j].key key != 0 with
      | true =>
        have e2' : ¬ cmpB st[st.length - 1].n.items[j].key key = 0 := by simpa using e2
        rw [if_neg e2']
        simp only [↓vp, vq0, vq1, vq2, vq3, vr0, vr1, vr2, vr3, vr4, vr5, vr6, vr7, vr8, vr9, vr10, vr11, vr12, vr13, vr14, vr15, vr16, vr17, vr18, vr19, vr20, vr21, vr22, vr23, vr24, vr25, vr26, vr27, vr28, vr29, vr30, vr31, vr32, vr33, vr34, opS, fpS, okP, pack, nAl, allocA, shId, leaves, fillA, fillR, splice, Nat.reduceLT, Nat.reduceEqDiff, Nat.reduceLeDiff, Nat.reduceAdd, Nat.reduceSub, Nat.reduceMul, Int.reduceBEq, Int.reduceBNe, Int.reduceLT, Int.reduceLE, Int.reduceEq, reduceIte, reduceCtorEq, da, int, boolA, RetP_go, resT, resC, resN, retV1, retV2, retV3, retV0, frzFZ, takeM, Option.some.injEq, q, e1, w5, atS hjl, cS hjl, hk2, g1, atI g, cI g, k40, o2, hk, e2]
        rfl
      | false =>
        have e2' : cmpB st[st.length - 1].n.items[j].key key = 0 := by simpa using e2
        rw [if_pos e2']
        simp only [↓vp, vq0, vq1, vq2, vq3, vr0, vr1, vr2, vr3, vr4, vr5, vr6, vr7, vr8, vr9, vr10, vr11, vr12, vr13, vr14, vr15, vr16, vr17, vr18, vr19, vr20, vr21, vr22, vr23, vr24, vr25, vr26, vr27, vr28, vr29, vr30, vr31, vr32, vr33, vr34, opS, fpS, okP, pack, nAl, allocA, shId, leaves, fillA, fillR, splice, Nat.reduceLT, Nat.reduceEqDiff, Nat.reduceLeDiff, Nat.reduceAdd, Nat.reduceSub, Nat.reduceMul, Int.reduceBEq, Int.reduceBNe, Int.reduceLT, Int.reduceLE, Int.reduceEq, reduceIte, reduceCtorEq, da, int, boolA, RetP_go, resT, resC, resN, retV1, retV2, retV3, retV0, frzFZ, takeM, Option.some.injEq, q, e1, w5, atS hjl, cS hjl, hk2, g1, atI g, cI g, k40, o2, hk, e2]
    · have g1 : ((st[st.length - 1].n.items.length : Int) ≤ j) = True := eq_true (by omega)
      rw [List.getElem?_eq_none (by omega)]
      simp only [↓vp, vq0, vq1, vq2, vq3, vr0, vr1, vr2, vr3, vr4, vr5, vr6, vr7, vr8, vr9, vr10, vr11, vr12, vr13, vr14, vr15, vr16, vr17, vr18, vr19, vr20, vr21, vr22, vr23, vr24, vr25, vr26, vr27, vr28, vr29, vr30, vr31, vr32, vr33, vr34, opS, fpS, okP, pack, nAl, allocA, shId, leaves, fillA, fillR, splice, Nat.reduceLT, Nat.reduceEqDiff, Nat.reduceLeDiff, Nat.reduceAdd, Nat.reduceSub, Nat.reduceMul, Int.reduceBEq, Int.reduceBNe, Int.reduceLT, Int.reduceLE, Int.reduceEq, reduceIte, reduceCtorEq, da, int, boolA, RetP_go, resT, resC, resN, retV1, retV2, retV3, retV0, frzFZ, takeM, Option.some.injEq, q, e1, w5, atS hjl, cS hjl, hk2, g1]
      rfl
end Go.VI

/- VI, part SL: the plain law of the ways: they are the document's. -/
set_option linter.unusedVariables false
set_option linter.unusedSimpArgs false
namespace Go.VI

theorem downM_refM (kf : NodeM → Int) (l : List NamedM) : ∀ (d : Nat) (ref : Int) (acc : List StepM),
    downM kf l d ref acc = if (refM kf l d ref).2 ≠ 0 then ([], (refM kf l d ref).2) else (acc ++ (refM kf l d ref).1, 0)
  | 0, ref, acc => by simp [downM, refM]
  | d + 1, ref, acc => by
    rw [downM, refM]
    split
    · rename_i h; simp [h]
    · split
      · simp
      · split
        · simp
        · cases hx : (nodeM l ref).1.kids[(kf (nodeM l ref).1).toNat]? with
          | none => simp
          | some x =>
            simp only
            rw [downM_refM kf l d x.ref]
            by_cases h : (refM kf l d x.ref).2 = 0
            · simp [h]
            · simp [h]
theorem refM_err (kf : NodeM → Int) (l : List NamedM) : ∀ (d : Nat) (ref : Int), (refM kf l d ref).2 ≠ 0 → (refM kf l d ref).1 = []
  | 0, ref, _ => rfl
  | d + 1, ref, h => by
    rw [refM] at h ⊢
    split
    · rfl
    · split
      · rfl
      · split
        · simp_all
        · split
          · split
            · rfl
            · simp_all
          · rfl
theorem wayM_refM (kf : NodeM → Int) (l : List NamedM) (root : Int) : wayM kf l root = refM kf l 12 root := by
  rw [wayM, downM_refM]
  split
  · rename_i h
    rw [← refM_err kf l 12 root h]
  · rename_i h
    have h : (refM kf l 12 root).2 = 0 := by simpa using h
    rw [List.nil_append, ← h]
theorem refM_congr {kf kg : NodeM → Int} (l : List NamedM) (h : ∀ x ∈ l, (x.n.leaf = true ∨ x.n.kids.length ≠ 0) → kf x.n = kg x.n) : ∀ (d : Nat) (ref : Int), refM kf l d ref = refM kg l d ref
  | 0, ref => rfl
  | d + 1, ref => by
    rw [refM, refM]
    split
    · rfl
    · rename_i he
      split
      · rfl
      · rename_i hz
        have hn : kf (nodeM l ref).1 = kg (nodeM l ref).1 := by
          cases hf : l.find? (fun x => x.ref == ref) with
          | none => simp [nodeM, hf] at he
          | some x =>
            have hx := List.mem_of_find?_eq_some hf
            have hz' : ¬ (x.n.leaf = false ∧ x.n.kids.length = 0) := by simpa [nodeM, hf] using hz
            simp only [nodeM, hf]
            refine h x hx ?_
            cases hl : x.n.leaf with
            | true => exact .inl rfl
            | false => exact .inr fun h0 => hz' ⟨hl, h0⟩
        rw [hn]
        split
        · rfl
        · split
          · rename_i x _
            rw [refM_congr l h d x.ref]
          · rfl
theorem edge_first (n : NodeM) (key : Bytes) : edgeK false n = refK 1 key n := by simp [edgeK, refK]
theorem edge_last (n : NodeM) (key : Bytes) (h : n.leaf = true ∨ n.kids.length ≠ 0) : edgeK true n = refK 2 key n := by
  have h2 : ¬ ((2 : Int) = 0) := by decide
  simp only [edgeK, refK, manyN, if_neg h2, if_true]
  cases hl : n.leaf with
  | true =>
    by_cases h0 : n.items.length = 0
    · simp [h0]
    · have : 0 < (n.items.length : Int) := by omega
      simp [h0, this]
  | false =>
    have h0 : n.kids.length ≠ 0 := by
      rcases h with h | h
      · rw [hl] at h; cases h
      · exact h
    have : 0 < (n.kids.length : Int) := by omega
    simp [this]
    intro h1
    rw [h1] at h0
    exact absurd rfl h0

/-! ### where keys rise, the two ways to search agree -/
theorem cmpB_refl : ∀ a : Bytes, cmpB a a = 0
  | [] => rfl
  | x :: a => by simp [cmpB, cmpB_refl a]
theorem cmpB_swap : ∀ a b : Bytes, cmpB b a = - cmpB a b
  | [], [] => rfl
  | [], _ :: _ => rfl
  | _ :: _, [] => rfl
  | x :: a, y :: b => by
    simp only [cmpB]
    by_cases h1 : x < y
    · have h2 : ¬ y < x := by omega
      simp [h1, h2]
    · by_cases h2 : y < x
      · simp [h1, h2]
      · simp [h1, h2, cmpB_swap a b]
theorem cmpB_trans : ∀ a b c : Bytes, cmpB a b < 0 → cmpB b c ≤ 0 → cmpB a c < 0
  | [], [], c, h, _ => by simp [cmpB] at h
  | [], _ :: _, [], _, h => by simp [cmpB] at h
  | [], _ :: _, _ :: _, _, _ => by simp [cmpB]
  | _ :: _, [], c, h, _ => by simp [cmpB] at h
  | x :: a, y :: b, [], _, h => by simp [cmpB] at h
  | x :: a, y :: b, z :: c, h, k => by
    simp only [cmpB] at h k ⊢
    by_cases h1 : x < y
    · by_cases h2 : y < z
      · rw [if_pos (by omega)]; decide
      · rw [if_neg h2] at k
        by_cases h3 : z < y
        · rw [if_pos h3] at k; exact absurd k (by decide)
        · rw [if_pos (by omega)]; decide
    · rw [if_neg h1] at h
      by_cases h4 : y < x
      · rw [if_pos h4] at h; exact absurd h (by decide)
      · rw [if_neg h4] at h
        by_cases h2 : y < z
        · rw [if_pos (by omega)]; decide
        · rw [if_neg h2] at k
          by_cases h3 : z < y
          · rw [if_pos h3] at k; exact absurd k (by decide)
          · rw [if_neg h3] at k
            rw [if_neg (by omega), if_neg (by omega)]
            exact cmpB_trans a b c h k

theorem sideF_snoc (key : Bytes) (x : KidM) : ∀ (l : List KidM) (i c : Nat), sideF key i c (l ++ [x]) = if cmpB x.key key ≤ 0 then i + l.length else sideF key i c l
  | [], i, c => by simp [sideF]
  | y :: l, i, c => by
    rw [List.cons_append, sideF, sideF_snoc key x l, sideF]
    split
    · simp; omega
    · rfl
theorem sideD_sideF (l : List KidM) (key : Bytes) : ∀ k, k < l.length → sideD l key k = sideF key 1 0 ((l.drop 1).take k)
  | 0, _ => by simp [sideD, sideF]
  | k + 1, h => by
    have hk : k < (l.drop 1).length := by simp; omega
    have hg : (l.drop 1)[k] = l[k + 1] := by simp [Nat.add_comm]
    rw [sideD, List.getElem?_eq_getElem h, Option.elim_some, List.take_succ_eq_append_getElem hk, sideF_snoc, hg, sideD_sideF l key k (by omega)]
    have hl : ((l.drop 1).take k).length = k := by simp; omega
    rw [hl]
    by_cases h0 : cmpB l[k + 1].key key ≤ 0
    · rw [if_pos h0, if_neg (by omega)]; omega
    · rw [if_neg h0, if_pos (by omega)]
theorem sideP_sideM (l : List KidM) (key : Bytes) : sideP l key = sideM l key := by
  unfold sideP sideM
  by_cases h : l.length = 0
  · have : l = [] := List.eq_nil_of_length_eq_zero h
    subst this
    rfl
  · rw [sideD_sideF l key _ (by omega), List.take_of_length_le (by simp)]

theorem findM_cons (x : ItemM) (l : List ItemM) (key : Bytes) : (findM (x :: l) key).1 = (if cmpB x.key key < 0 then 1 else 0) + (findM l key).1 := by
  have gen : ∀ (l : List ItemM) (a : Int) (b : Bool), (l.foldl (fun p x => (if cmpB x.key key < 0 then p.1 + 1 else p.1, p.2 || cmpB x.key key == 0)) (a, b)).1 = a + (l.foldl (fun p x => (if cmpB x.key key < 0 then p.1 + 1 else p.1, p.2 || cmpB x.key key == 0)) ((0 : Int), false)).1 := by
    intro l
    induction l with
    | nil => intro a b; simp
    | cons y l ih =>
      intro a b
      simp only [List.foldl_cons]
      rw [ih, ih (if cmpB y.key key < 0 then 0 + 1 else 0)]
      split <;> omega
  unfold findM
  rw [List.foldl_cons, gen]
  split <;> simp
theorem risI_head {x : ItemM} : ∀ {l : List ItemM}, risI (x :: l) = true → ∀ (i : Nat) (h : i < l.length), cmpB x.key l[i].key < 0
  | [], _, i, h => by simp at h
  | y :: l, hr, i, h => by
    simp only [risI, Bool.and_eq_true, decide_eq_true_eq] at hr
    cases i with
    | zero => exact hr.1
    | succ i =>
      have := risI_head (x := y) (l := l) hr.2 i (by simpa using h)
      exact cmpB_trans _ _ _ hr.1 (by simpa using Int.le_of_lt this)
theorem risI_tail {x : ItemM} {l : List ItemM} (h : risI (x :: l) = true) : risI l = true := by
  cases l with
  | nil => rfl
  | cons y l =>
    simp only [risI, Bool.and_eq_true] at h
    exact h.2
/-- How many are below: a beginning. -/
theorem cnt_spec (key : Bytes) : ∀ (l : List ItemM), risI l = true → ∃ c : Nat, (findM l key).1 = c ∧ c ≤ l.length ∧ ∀ (i : Nat) (h : i < l.length), i < c ↔ cmpB l[i].key key < 0
  | [], _ => ⟨0, rfl, Nat.le_refl _, fun i h => by simp at h⟩
  | x :: l, hr => by
    obtain ⟨c, h1, h2, h3⟩ := cnt_spec key l (risI_tail hr)
    by_cases hx : cmpB x.key key < 0
    · refine ⟨c + 1, ?_, by simp; omega, fun i h => ?_⟩
      · rw [findM_cons, if_pos hx, h1]; omega
      · cases i with
        | zero => simp [hx]
        | succ i =>
          rw [List.getElem_cons_succ, ← h3 i (by simpa using h)]
          omega
    · have hc : c = 0 := by
        cases c with
        | zero => rfl
        | succ c =>
          exfalso
          have h0 : 0 < l.length := by omega
          have := (h3 0 h0).1 (by omega)
          exact hx (cmpB_trans _ _ _ (risI_head hr 0 h0) (Int.le_of_lt this))
      subst hc
      refine ⟨0, ?_, by simp, fun i h => ?_⟩
      · rw [findM_cons, if_neg hx, h1]; rfl
      · cases i with
        | zero => simp [hx]
        | succ i =>
          have := h3 i (by simpa using h)
          rw [List.getElem_cons_succ, ← this]
          omega
theorem bsG_spec (l : List ItemM) (key : Bytes) (c : Nat) (hc : ∀ (i : Nat) (h : i < l.length), i < c ↔ cmpB l[i].key key < 0) : ∀ (n i j : Nat), j < i + n → i ≤ c → c ≤ j → j ≤ l.length → bsG l key n i j = c
  | 0, i, j, hn, h1, h2, _ => by omega
  | n + 1, i, j, hn, h1, h2, h3 => by
    rw [bsG]
    by_cases hlt : i < j
    · have gi : (i + j) / 2 < l.length := by omega
      rw [if_pos hlt, List.getElem?_eq_getElem gi, Option.elim_some]
      split
      · rename_i hl
        have := (hc _ gi).2 hl
        exact bsG_spec l key c hc n _ j (by omega) (by omega) h2 h3
      · rename_i hl
        have : ¬ (i + j) / 2 < c := fun h => hl ((hc _ gi).1 h)
        exact bsG_spec l key c hc n i _ (by omega) h1 (by omega) (by omega)
    · rw [if_neg hlt]; omega
theorem bsM_findM (l : List ItemM) (key : Bytes) (hr : risI l = true) : (bsM l key : Int) = (findM l key).1 := by
  obtain ⟨c, h1, h2, h3⟩ := cnt_spec key l hr
  rw [h1, bsM, bsG_spec l key c h3 (l.length + 1) 0 l.length (by omega) (by omega) h2 (Nat.le_refl _)]
theorem path_ref (n : NodeM) (key : Bytes) (hr : risI n.items = true) : pathK key n = refK 0 key n := by
  unfold pathK refK
  rw [if_pos rfl]
  split
  · exact bsM_findM _ _ hr
  · rw [sideP_sideM]
end Go.VI

/- VI, part SM: law TreePaths, walked. -/
set_option linter.unusedVariables false
set_option linter.unusedSimpArgs false
set_option maxRecDepth 100000
namespace Go.VI
attribute [local congr] AW_congr OW_congr DW_congr NW_congr VW_congr GW_congr PW_congr KW_congr ite_congr' GV_congr CV_congr

theorem sameI_refl (x : ItemM) : sameI x x = true := by simp [sameI, cmpB_refl]
theorem sameIs_refl : ∀ l, sameIs l l = true
  | [] => rfl
  | x :: l => by rw [sameIs, sameI_refl, sameIs_refl l]; rfl
theorem sameKs_refl : ∀ l, sameKs l l = true
  | [] => rfl
  | x :: l => by rw [sameKs, sameK, cmpB_refl, sameKs_refl l]; simp
theorem sameN_refl (n : NodeM) : sameN n n = true := by simp [sameN, sameIs_refl, sameKs_refl]
theorem stepsM_refl (l : List StepM) : stepsM l l = true := by
  have : ∀ l, sameSs l l = true := by
    intro l
    induction l with
    | nil => rfl
    | cons x l ih => rw [sameSs, sameS, sameN_refl, ih]; simp
  simp [stepsM, this]
theorem sumM_ge : ∀ (l : List NamedM) (s : Int), 0 ≤ s → s + l.length * 281474976710656 < 9223372036854775807 → (∀ x ∈ l, x.n.items.length < MX ∧ x.n.kids.length < MX) →
    s ≤ sumM s l ∧ ∀ x ∈ l, s + x.n.items.length + x.n.kids.length ≤ sumM s l
  | [], s, _, _, _ => ⟨Int.le_refl _, by simp⟩
  | y :: l, s, hs, hb, h => by
    obtain ⟨h1, h2⟩ := h y List.mem_cons_self
    unfold MX at h1 h2
    simp only [List.length_cons] at hb
    have e1 : IntKind.i64.wrap ((y.n.items.length : Int) + y.n.kids.length) = (y.n.items.length : Int) + y.n.kids.length := wrap_i64 (by omega)
    have e2 : IntKind.i64.wrap (s + ((y.n.items.length : Int) + y.n.kids.length)) = s + ((y.n.items.length : Int) + y.n.kids.length) := wrap_i64 (by omega)
    rw [sumM, e1, e2]
    obtain ⟨a, b⟩ := sumM_ge l (s + ((y.n.items.length : Int) + y.n.kids.length)) (by omega) (by omega) (fun x hx => h x (List.mem_cons_of_mem _ hx))
    refine ⟨by omega, fun x hx => ?_⟩
    rcases List.mem_cons.1 hx with rfl | hx
    · omega
    · have := b x hx
      omega
theorem few_tiny {l : List NamedM} (hl : okL l) (h : fewM l = true) : tinyL l := by
  simp only [fewM, Bool.and_eq_true, decide_eq_true_eq] at h
  obtain ⟨_, b⟩ := sumM_ge l 0 (Int.le_refl _) (by omega) (fun x hx => ⟨(hl.h x hx).i.n, (hl.h x hx).k.n⟩)
  intro x hx
  have := b x hx
  omega
end Go.VI

/- VI, part SN: law TreePaths, walked. -/
set_option linter.unusedVariables false
set_option linter.unusedSimpArgs false
set_option maxRecDepth 100000
namespace Go.VI
attribute [local congr] AW_congr OW_congr DW_congr NW_congr VW_congr GW_congr PW_congr KW_congr ite_congr' GV_congr CV_congr

theorem k13 {l : List NamedM} (hl : okL l) {K : Heap} {L : List Blk} {Q : AV → Heap → Prop} : KW ft (.fn (.func 13) [] []) [encL l] (hx K L) Q ↔ Q (boolA (fewM l)) (hx K L) := KW_of (s13 l hl _)
theorem k15 {n : NodeM} (hn : okN n) {K : Heap} {L : List Blk} {Q : AV → Heap → Prop} : KW ft (.fn (.func 15) [] []) [.agg (nodeC n)] (hx K L) Q ↔ Q (boolA (risN n)) (hx K L) := KW_of (s15 n hn _)
theorem k19 {l : List NamedM} (hl : okL l) (ht : tinyL l) {root : Int} {last : Bool} {K : Heap} {L : List Blk} {Q : AV → Heap → Prop} :
    KW ft (.fn (.func 19) [] []) [srcF l, int root, boolA last] (hx K L) Q ↔ Q (.tup [encS (wayM (edgeK last) l root).1, int (wayM (edgeK last) l root).2]) (hx K L) := KW_of (s19 l hl ht root last _)
theorem k20 {a b : List StepM} (ha : okS a) (hb : okS b) (hi : a.length ≤ 12) {K : Heap} {L : List Blk} {Q : AV → Heap → Prop} :
    KW ft (.fn (.func 20) [] []) [encS a, encS b] (hx K L) Q ↔ Q (boolA (stepsM a b)) (hx K L) := KW_of (s20 a b ha hb hi _)
/-- alive() tells true. -/
def Alive (k : FuncId) : Prop := ∀ (K : Heap) (L : List Blk) (Q : AV → Heap → Prop), KW ft (.fn (.func k) [] []) [] (hx K L) Q ↔ Q (boolA true) (hx K L)

def good3 (n : NodeM) : Bool := risN n && !(n.leaf && decide ((0 : Int) < n.kids.length)) && !(!n.leaf && decide ((0 : Int) < n.items.length))
theorem l3 (ha : Alive 14) (l : List NamedM) (hl : okL l) (root : Int) (key : Bytes) {Q : AExit → Env → Heap → Prop}
   (hex : ∀ f' K, (∀ x ∈ l, good3 x.n = true) → f' 0 = encL l → f' 1 = int root → f' 2 = encB key → Q (.exit 0) (mkE 139 f') (hx K []))
   (hret : ∀ f' K L, f' 6 = boolA true → Q .ret (mkE 139 f') (hx K L)) :
   ∀ (d i : Nat) (f : Nat → AV) (K : Heap), i + d = l.length → (∀ x ∈ l.take i, good3 x.n = true) → f 0 = encL l → f 1 = int root → f 2 = encB key → f 30 = encL l → f 31 = int l.length → f 32 = int i →
    AW ft (.loop c3L0) (mkE 139 f) (hx K []) Q := by
  intro d
  have hi := hl.n
  unfold MX at hi
  induction d with
  | zero =>
    intro i f K hd hg h0 h1 h2 h30 h31 h32
    have g : ((i : Int) < l.length) = False := eq_false (by omega)
    rw [AW_loop]
    unfold c3L0
    rw [List.take_of_length_le (by omega)] at hg
    simp only [↓vp, vq0, vq1, vq2, vq3, vr0, vr1, vr2, vr3, vr4, vr5, vr6, vr7, vr8, vr9, vr10, vr11, vr12, vr13, vr14, vr15, vr16, vr17, vr18, vr19, vr20, vr21, vr22, vr23, vr24, vr25, vr26, vr27, vr28, vr29, vr30, vr31, vr32, vr33, vr34, opS, fpS, okP, pack, nAl, allocA, shId, leaves, fillA, fillR, splice, Nat.reduceLT, Nat.reduceEqDiff, Nat.reduceLeDiff, Nat.reduceAdd, Nat.reduceSub, Nat.reduceMul, Int.reduceBEq, Int.reduceBNe, Int.reduceLT, Int.reduceLE, Int.reduceEq, reduceIte, reduceCtorEq, da, int, boolA, h31, h32, g]
    refine hex _ _ hg ?_ ?_ ?_ <;> simp only [↓vp, vq0, vq1, vq2, vq3, vr0, vr1, vr2, vr3, vr4, vr5, vr6, vr7, vr8, vr9, vr10, vr11, vr12, vr13, vr14, vr15, vr16, vr17, vr18, vr19, vr20, vr21, vr22, vr23, vr24, vr25, vr26, vr27, vr28, vr29, vr30, vr31, vr32, vr33, vr34, opS, fpS, okP, pack, nAl, allocA, shId, leaves, fillA, fillR, splice, Nat.reduceLT, Nat.reduceEqDiff, Nat.reduceLeDiff, Nat.reduceAdd, Nat.reduceSub, Nat.reduceMul, Int.reduceBEq, Int.reduceBNe, Int.reduceLT, Int.reduceLE, Int.reduceEq, reduceIte, reduceCtorEq, da, int, boolA, h0, h1, h2]
  | succ d ih =>
    intro i f K hd hg h0 h1 h2 h30 h31 h32
    have g : ((i : Int) < l.length) = True := eq_true (by omega)
    have gi : i < l.length := by omega
    have o1 := hl.at_ gi
    have w1 := wrap_succ (show i < 9223372036854775807 by omega)
    have fin : good3 l[i].n = true → ∀ x ∈ l.take (i + 1), good3 x.n = true := fun h x hx => by
      rw [List.take_succ_eq_append_getElem gi] at hx
      rcases List.mem_append.1 hx with hx | hx
      · exact hg x hx
      · rw [List.mem_singleton] at hx
        rw [hx]; exact h
    have ha' := fun K L Q => ha K L Q
    rw [AW_loop]
    unfold c3L0
    cases e1 : risN l[i].n with
    | false =>
      simp only [↓vp, vq0, vq1, vq2, vq3, vr0, vr1, vr2, vr3, vr4, vr5, vr6, vr7, vr8, vr9, vr10, vr11, vr12, vr13, vr14, vr15, vr16, vr17, vr18, vr19, vr20, vr21, vr22, vr23, vr24, vr25, vr26, vr27, vr28, vr29, vr30, vr31, vr32, vr33, vr34, opS, fpS, okP, pack, nAl, allocA, shId, leaves, fillA, fillR, splice, Nat.reduceLT, Nat.reduceEqDiff, Nat.reduceLeDiff, Nat.reduceAdd, Nat.reduceSub, Nat.reduceMul, Int.reduceBEq, Int.reduceBNe, Int.reduceLT, Int.reduceLE, Int.reduceEq, reduceIte, reduceCtorEq, da, int, boolA, h0, h1, h2, h30, h31, h32, g, atL gi, cL gi, k15, o1, e1, ha' _ _ _]
      refine hret _ _ _ ?_
      simp only [↓vp, vq0, vq1, vq2, vq3, vr0, vr1, vr2, vr3, vr4, vr5, vr6, vr7, vr8, vr9, vr10, vr11, vr12, vr13, vr14, vr15, vr16, vr17, vr18, vr19, vr20, vr21, vr22, vr23, vr24, vr25, vr26, vr27, vr28, vr29, vr30, vr31, vr32, vr33, vr34, opS, fpS, okP, pack, nAl, allocA, shId, leaves, fillA, fillR, splice, Nat.reduceLT, Nat.reduceEqDiff, Nat.reduceLeDiff, Nat.reduceAdd, Nat.reduceSub, Nat.reduceMul, Int.reduceBEq, Int.reduceBNe, Int.reduceLT, Int.reduceLE, Int.reduceEq, reduceIte, reduceCtorEq, da, int, boolA]
    | true =>
      cases e2 : l[i].n.leaf with
      | true =>
        cases e3 : decide ((0 : Int) < l[i].n.kids.length) with
        | true =>
          simp only [↓vp, vq0, vq1, vq2, vq3, vr0, vr1, vr2, vr3, vr4, vr5, vr6, vr7, vr8, vr9, vr10, vr11, vr12, vr13, vr14, vr15, vr16, vr17, vr18, vr19, vr20, vr21, vr22, vr23, vr24, vr25, vr26, vr27, vr28, vr29, vr30, vr31, vr32, vr33, vr34, opS, fpS, okP, pack, nAl, allocA, shId, leaves, fillA, fillR, splice, Nat.reduceLT, Nat.reduceEqDiff, Nat.reduceLeDiff, Nat.reduceAdd, Nat.reduceSub, Nat.reduceMul, Int.reduceBEq, Int.reduceBNe, Int.reduceLT, Int.reduceLE, Int.reduceEq, reduceIte, reduceCtorEq, da, int, boolA, h0, h1, h2, h30, h31, h32, g, atL gi, cL gi, k15, o1, e1, e2, e3, ha' _ _ _]
          refine hret _ _ _ ?_
          simp only [↓vp, vq0, vq1, vq2, vq3, vr0, vr1, vr2, vr3, vr4, vr5, vr6, vr7, vr8, vr9, vr10, vr11, vr12, vr13, vr14, vr15, vr16, vr17, vr18, vr19, vr20, vr21, vr22, vr23, vr24, vr25, vr26, vr27, vr28, vr29, vr30, vr31, vr32, vr33, vr34, opS, fpS, okP, pack, nAl, allocA, shId, leaves, fillA, fillR, splice, Nat.reduceLT, Nat.reduceEqDiff, Nat.reduceLeDiff, Nat.reduceAdd, Nat.reduceSub, Nat.reduceMul, Int.reduceBEq, Int.reduceBNe, Int.reduceLT, Int.reduceLE, Int.reduceEq, reduceIte, reduceCtorEq, da, int, boolA]
        | false =>
          simp only [↓vp, vq0, vq1, vq2, vq3, vr0, vr1, vr2, vr3, vr4, vr5, vr6, vr7, vr8, vr9, vr10, vr11, vr12, vr13, vr14, vr15, vr16, vr17, vr18, vr19, vr20, vr21, vr22, vr23, vr24, vr25, vr26, vr27, vr28, vr29, vr30, vr31, vr32, vr33, vr34, opS, fpS, okP, pack, nAl, allocA, shId, leaves, fillA, fillR, splice, Nat.reduceLT, Nat.reduceEqDiff, Nat.reduceLeDiff, Nat.reduceAdd, Nat.reduceSub, Nat.reduceMul, Int.reduceBEq, Int.reduceBNe, Int.reduceLT, Int.reduceLE, Int.reduceEq, reduceIte, reduceCtorEq, da, int, boolA, h0, h1, h2, h30, h31, h32, g, atL gi, cL gi, k15, o1, e1, e2, e3, ha' _ _ _, w1]
          rw [← hx_nil (hx _ _)]
          refine ih (i + 1) _ _ (by omega) (fin (by simp [good3, e1, e2]; simpa using e3)) ?_ ?_ ?_ ?_ ?_ ?_ <;> simp only [↓vp, vq0, vq1, vq2, vq3, vr0, vr1, vr2, vr3, vr4, vr5, vr6, vr7, vr8, vr9, vr10, vr11, vr12, vr13, vr14, vr15, vr16, vr17, vr18, vr19, vr20, vr21, vr22, vr23, vr24, vr25, vr26, vr27, vr28, vr29, vr30, vr31, vr32, vr33, vr34, opS, fpS, okP, pack, nAl, allocA, shId, leaves, fillA, fillR, splice, Nat.reduceLT, Nat.reduceEqDiff, Nat.reduceLeDiff, Nat.reduceAdd, Nat.reduceSub, Nat.reduceMul, Int.reduceBEq, Int.reduceBNe, Int.reduceLT, Int.reduceLE, Int.reduceEq, reduceIte, reduceCtorEq, da, int, boolA, h0, h1, h2, h30, h31]
      | false =>
        cases e3 : decide ((0 : Int) < l[i].n.items.length) with
        | true =>
          simp only [↓vp, vq0, vq1, vq2, vq3, vr0, vr1, vr2, vr3, vr4, vr5, vr6, vr7, vr8, vr9, vr10, vr11, vr12, vr13, vr14, vr15, vr16, vr17, vr18, vr19, vr20, vr21, vr22, vr23, vr24, vr25, vr26, vr27, vr28, vr29, vr30, vr31, vr32, vr33, vr34, opS, fpS, okP, pack, nAl, allocA, shId, leaves, fillA, fillR, splice, Nat.reduceLT, Nat.reduceEqDiff, Nat.reduceLeDiff, Nat.reduceAdd, Nat.reduceSub, Nat.reduceMul, Int.reduceBEq, Int.reduceBNe, Int.reduceLT, Int.reduceLE, Int.reduceEq, reduceIte, reduceCtorEq, da, int, boolA, h0, h1, h2, h30, h31, h32, g, atL gi, cL gi, k15, o1, e1, e2, e3, ha' _ _ _]
          refine hret _ _ _ ?_
          simp only [↓vp, vq0, vq1, vq2, vq3, vr0, vr1, vr2, vr3, vr4, vr5, vr6, vr7, vr8, vr9, vr10, vr11, vr12, vr13, vr14, vr15, vr16, vr17, vr18, vr19, vr20, vr21, vr22, vr23, vr24, vr25, vr26, vr27, vr28, vr29, vr30, vr31, vr32, vr33, vr34, opS, fpS, okP, pack, nAl, allocA, shId, leaves, fillA, fillR, splice, Nat.reduceLT, Nat.reduceEqDiff, Nat.reduceLeDiff, Nat.reduceAdd, Nat.reduceSub, Nat.reduceMul, Int.reduceBEq, Int.reduceBNe, Int.reduceLT, Int.reduceLE, Int.reduceEq, reduceIte, reduceCtorEq, da, int, boolA]
        | false =>
          simp only [↓vp, vq0, vq1, vq2, vq3, vr0, vr1, vr2, vr3, vr4, vr5, vr6, vr7, vr8, vr9, vr10, vr11, vr12, vr13, vr14, vr15, vr16, vr17, vr18, vr19, vr20, vr21, vr22, vr23, vr24, vr25, vr26, vr27, vr28, vr29, vr30, vr31, vr32, vr33, vr34, opS, fpS, okP, pack, nAl, allocA, shId, leaves, fillA, fillR, splice, Nat.reduceLT, Nat.reduceEqDiff, Nat.reduceLeDiff, Nat.reduceAdd, Nat.reduceSub, Nat.reduceMul, Int.reduceBEq, Int.reduceBNe, Int.reduceLT, Int.reduceLE, Int.reduceEq, reduceIte, reduceCtorEq, da, int, boolA, h0, h1, h2, h30, h31, h32, g, atL gi, cL gi, k15, o1, e1, e2, e3, ha' _ _ _, w1]
          rw [← hx_nil (hx _ _)]
          refine ih (i + 1) _ _ (by omega) (fin (by simp [good3, e1, e2]; simpa using e3)) ?_ ?_ ?_ ?_ ?_ ?_ <;> simp only [↓vp, vq0, vq1, vq2, vq3, vr0, vr1, vr2, vr3, vr4, vr5, vr6, vr7, vr8, vr9, vr10, vr11, vr12, vr13, vr14, vr15, vr16, vr17, vr18, vr19, vr20, vr21, vr22, vr23, vr24, vr25, vr26, vr27, vr28, vr29, vr30, vr31, vr32, vr33, vr34, opS, fpS, okP, pack, nAl, allocA, shId, leaves, fillA, fillR, splice, Nat.reduceLT, Nat.reduceEqDiff, Nat.reduceLeDiff, Nat.reduceAdd, Nat.reduceSub, Nat.reduceMul, Int.reduceBEq, Int.reduceBNe, Int.reduceLT, Int.reduceLE, Int.reduceEq, reduceIte, reduceCtorEq, da, int, boolA, h0, h1, h2, h30, h31]

theorem callL_frz {ft : FT} {k : FuncId} {n : Nat} {rs : List ARes} {body : ACode} {as bs : List AV} {H : Heap} (hk : ft k = some (.go true n rs body)) (h : frzCells H as = frzCells H bs) :
    callL ft (.fn (.func k) [] []) as H = callL ft (.fn (.func k) [] []) bs H := by
  rw [callL_fn, callL_fn]
  simp only [List.nil_append, List.append_nil]
  unfold callF
  simp only [hk, h]
theorem k18a {l : List NamedM} (hl : okL l) (ht : tinyL l) {key : Bytes} (hk : okB key) {ref : Int} {K : Heap} {L : List Blk} {Q : AV → Heap → Prop} :
    KW ft (.fn (.func 18) [] []) [encL l, int ref, int 0, encB key, int 12] (hx K L) Q ↔ Q (.tup [encS (refM (refK 0 key) l 12 ref).1, int (refM (refK 0 key) l 12 ref).2]) (hx K L) :=
  KW_of (s18a l hl ht key hk 12 (Nat.le_refl _) ref _)
theorem ok_nil : okB [] := ⟨by decide, rfl⟩
theorem k18b {l : List NamedM} (hl : okL l) (ht : tinyL l) {ref : Int} {K : Heap} {L : List Blk} {Q : AV → Heap → Prop} :
    KW ft (.fn (.func 18) [] []) [encL l, int ref, int 1, .sc (.slice none 0 0), int 12] (hx K L) Q ↔ Q (.tup [encS (refM (refK 1 []) l 12 ref).1, int (refM (refK 1 []) l 12 ref).2]) (hx K L) :=
  KW_of ((callL_frz (bs := [encL l, int ref, int 1, encB [], int 12]) rfl rfl).trans (s18b l hl ht [] ok_nil 12 (Nat.le_refl _) ref _))
theorem k18c {l : List NamedM} (hl : okL l) (ht : tinyL l) {ref : Int} {K : Heap} {L : List Blk} {Q : AV → Heap → Prop} :
    KW ft (.fn (.func 18) [] []) [encL l, int ref, int 2, .sc (.slice none 0 0), int 12] (hx K L) Q ↔ Q (.tup [encS (refM (refK 2 []) l 12 ref).1, int (refM (refK 2 []) l 12 ref).2]) (hx K L) :=
  KW_of ((callL_frz (bs := [encL l, int ref, int 2, encB [], int 12]) rfl rfl).trans (s18c l hl ht [] ok_nil 12 (Nat.le_refl _) ref _))
theorem wayM_ok (kf : NodeM → Int) {l : List NamedM} (hl : okL l) (ht : tinyL l) (root : Int) : okS (wayM kf l root).1 := (wayM_spec kf l hl ht root).1
theorem wayM_len (kf : NodeM → Int) {l : List NamedM} (hl : okL l) (ht : tinyL l) (root : Int) : (wayM kf l root).1.length ≤ 12 := (wayM_spec kf l hl ht root).2.2.2
theorem ways {l : List NamedM} (hg : ∀ x ∈ l, good3 x.n = true) (root : Int) (key : Bytes) :
    refM (refK 0 key) l 12 root = wayM (pathK key) l root ∧ refM (refK 1 []) l 12 root = wayM (edgeK false) l root ∧ refM (refK 2 []) l 12 root = wayM (edgeK true) l root := by
  refine ⟨?_, ?_, ?_⟩ <;> rw [wayM_refM] <;> refine refM_congr l (fun x hx h => ?_) 12 root
  · have := hg x hx
    simp only [good3, risN, Bool.and_eq_true] at this
    exact (path_ref _ _ this.1.1.1).symm
  · exact (edge_first _ _).symm
  · exact (edge_last _ _ h).symm
theorem s3 (ha : Alive 14) (l : List NamedM) (hl : okL l) (root : Int) (key : Bytes) (hk : okB key) (H : Heap) : callL ft (.fn (.func 3) [] []) [encL l, int root, encB key] H = some (boolA true, H) := by
  refine call_p (as' := [encL l, int root, encB key]) rfl rfl (by simp) ?_
  have ha' := fun K L Q => ha K L Q
  unfold c3 r3
  cases e1 : fewM l with
  | false => simp only [↓vp, vq0, vq1, vq2, vq3, vr0, vr1, vr2, vr3, vr4, vr5, vr6, vr7, vr8, vr9, vr10, vr11, vr12, vr13, vr14, vr15, vr16, vr17, vr18, vr19, vr20, vr21, vr22, vr23, vr24, vr25, vr26, vr27, vr28, vr29, vr30, vr31, vr32, vr33, vr34, opS, fpS, okP, pack, nAl, allocA, shId, leaves, fillA, fillR, splice, Nat.reduceLT, Nat.reduceEqDiff, Nat.reduceLeDiff, Nat.reduceAdd, Nat.reduceSub, Nat.reduceMul, Int.reduceBEq, Int.reduceBNe, Int.reduceLT, Int.reduceLE, Int.reduceEq, reduceIte, reduceCtorEq, da, int, boolA, RetP_go, resT, resC, resN, retV1, retV2, retV3, retV0, frzFZ, takeM, Option.some.injEq, k13, hl, e1, ha' _ _ _]
  | true =>
    have ht := few_tiny hl e1
    cases e2 : decide ((100 : Int) < key.length) with
    | true => simp only [↓vp, vq0, vq1, vq2, vq3, vr0, vr1, vr2, vr3, vr4, vr5, vr6, vr7, vr8, vr9, vr10, vr11, vr12, vr13, vr14, vr15, vr16, vr17, vr18, vr19, vr20, vr21, vr22, vr23, vr24, vr25, vr26, vr27, vr28, vr29, vr30, vr31, vr32, vr33, vr34, opS, fpS, okP, pack, nAl, allocA, shId, leaves, fillA, fillR, splice, Nat.reduceLT, Nat.reduceEqDiff, Nat.reduceLeDiff, Nat.reduceAdd, Nat.reduceSub, Nat.reduceMul, Int.reduceBEq, Int.reduceBNe, Int.reduceLT, Int.reduceLE, Int.reduceEq, reduceIte, reduceCtorEq, da, int, boolA, RetP_go, resT, resC, resN, retV1, retV2, retV3, retV0, frzFZ, takeM, Option.some.injEq, k13, hl, e1, e2, ha' _ _ _]
    | false =>
      simp only [↓vp, vq0, vq1, vq2, vq3, vr0, vr1, vr2, vr3, vr4, vr5, vr6, vr7, vr8, vr9, vr10, vr11, vr12, vr13, vr14, vr15, vr16, vr17, vr18, vr19, vr20, vr21, vr22, vr23, vr24, vr25, vr26, vr27, vr28, vr29, vr30, vr31, vr32, vr33, vr34, opS, fpS, okP, pack, nAl, allocA, shId, leaves, fillA, fillR, splice, Nat.reduceLT, Nat.reduceEqDiff, Nat.reduceLeDiff, Nat.reduceAdd, Nat.reduceSub, Nat.reduceMul, Int.reduceBEq, Int.reduceBNe, Int.reduceLT, Int.reduceLE, Int.reduceEq, reduceIte, reduceCtorEq, da, int, boolA, k13, hl, e1, e2]
      refine l3 ha l hl root key (fun f' K hg h0 h1 h2 => ?_) (fun f' K L h6 => ?_) l.length 0 _ _ (by simp) (by simp) ?_ ?_ ?_ ?_ ?_ ?_
      · obtain ⟨q1, q2, q3⟩ := ways hg root key
        have a1 := wayM_ok (pathK key) hl ht root
        have a2 := wayM_ok (edgeK false) hl ht root
        have a3 := wayM_ok (edgeK true) hl ht root
        have b1 := wayM_len (pathK key) hl ht root
        have b2 := wayM_len (edgeK false) hl ht root
        have b3 := wayM_len (edgeK true) hl ht root
        have x16 := fun K L Q => k16 hl ht (root := root) hk (K := K) (L := L) (Q := Q)
        have x19a := fun K L Q => k19 hl ht (root := root) (last := false) (K := K) (L := L) (Q := Q)
        have x19b := fun K L Q => k19 hl ht (root := root) (last := true) (K := K) (L := L) (Q := Q)
        have x18a := fun K L Q => k18a hl ht (ref := root) hk (K := K) (L := L) (Q := Q)
        have x18b := fun K L Q => k18b hl ht (ref := root) (K := K) (L := L) (Q := Q)
        have x18c := fun K L Q => k18c hl ht (ref := root) (K := K) (L := L) (Q := Q)
        rw [q1] at x18a
        rw [q2] at x18b
        rw [q3] at x18c
        generalize wayM (pathK key) l root = p1 at *
        generalize wayM (edgeK false) l root = p2 at *
        generalize wayM (edgeK true) l root = p3 at *
        simp only [int, boolA] at x16 x18a x18b x18c x19a x19b
        unfold c3R1
        simp only [↓vp, vq0, vq1, vq2, vq3, vr0, vr1, vr2, vr3, vr4, vr5, vr6, vr7, vr8, vr9, vr10, vr11, vr12, vr13, vr14, vr15, vr16, vr17, vr18, vr19, vr20, vr21, vr22, vr23, vr24, vr25, vr26, vr27, vr28, vr29, vr30, vr31, vr32, vr33, vr34, opS, fpS, okP, pack, nAl, allocA, shId, leaves, fillA, fillR, splice, Nat.reduceLT, Nat.reduceEqDiff, Nat.reduceLeDiff, Nat.reduceAdd, Nat.reduceSub, Nat.reduceMul, Int.reduceBEq, Int.reduceBNe, Int.reduceLT, Int.reduceLE, Int.reduceEq, reduceIte, reduceCtorEq, da, int, boolA, RetP_go, resT, resC, resN, retV1, retV2, retV3, retV0, frzFZ, takeM, Option.some.injEq, h0, h1, h2, k17, x16, x19a, x19b, x18a, x18b, x18c, ha' _ _ _, k20, a1, a2, a3, b1, b2, b3, stepsM_refl]
      · simp only [↓vp, vq0, vq1, vq2, vq3, vr0, vr1, vr2, vr3, vr4, vr5, vr6, vr7, vr8, vr9, vr10, vr11, vr12, vr13, vr14, vr15, vr16, vr17, vr18, vr19, vr20, vr21, vr22, vr23, vr24, vr25, vr26, vr27, vr28, vr29, vr30, vr31, vr32, vr33, vr34, opS, fpS, okP, pack, nAl, allocA, shId, leaves, fillA, fillR, splice, Nat.reduceLT, Nat.reduceEqDiff, Nat.reduceLeDiff, Nat.reduceAdd, Nat.reduceSub, Nat.reduceMul, Int.reduceBEq, Int.reduceBNe, Int.reduceLT, Int.reduceLE, Int.reduceEq, reduceIte, reduceCtorEq, da, int, boolA, RetP_go, resT, resC, resN, retV1, retV2, retV3, retV0, frzFZ, takeM, Option.some.injEq, h6]
      all_goals first | rfl | (simp only [↓vp, vq0, vq1, vq2, vq3, vr0, vr1, vr2, vr3, vr4, vr5, vr6, vr7, vr8, vr9, vr10, vr11, vr12, vr13, vr14, vr15, vr16, vr17, vr18, vr19, vr20, vr21, vr22, vr23, vr24, vr25, vr26, vr27, vr28, vr29, vr30, vr31, vr32, vr33, vr34, opS, fpS, okP, pack, nAl, allocA, shId, leaves, fillA, fillR, splice, Nat.reduceLT, Nat.reduceEqDiff, Nat.reduceLeDiff, Nat.reduceAdd, Nat.reduceSub, Nat.reduceMul, Int.reduceBEq, Int.reduceBNe, Int.reduceLT, Int.reduceLE, Int.reduceEq, reduceIte, reduceCtorEq, da, int, boolA]; done)
end Go.VI

/- VI, part SO: All: keys, places, form. -/
set_option linter.unusedVariables false
set_option linter.unusedSimpArgs false
set_option maxRecDepth 100000
namespace Go.VI
attribute [local congr] AW_congr OW_congr DW_congr NW_congr VW_congr GW_congr PW_congr KW_congr ite_congr' GV_congr CV_congr

/-! ### appending to a growing slice -/
def kill (K : Heap) : AV → Heap
  | .sl id _ _ => K.set id .dead
  | _ => K
theorem kill_next (K : Heap) (S : AV) : (kill K S).next = K.next := by
  unfold kill
  split
  · exact Heap.next_set _ _ _
  · rfl
theorem kill_get {K : Heap} {S : AV} {sz : Nat} {rows : List (List AV)} (h : Rep K sz S rows) {j : Nat} {b : Blk} (hj : K.get j = some b) (hb : ∀ r, b ≠ .row false sz r) : (kill K S).get j = some b := by
  rcases h with ⟨rfl, _⟩ | ⟨id, rfl, hr⟩
  · exact hj
  · have : j ≠ id := fun e => by
      subst e
      rw [hj] at hr
      exact hb _ (Option.some.inj hr)
    show (K.set id .dead).get j = _
    rw [Heap.get_set_ne _ this, hj]
theorem appA_rep {K : Heap} {S : AV} {sz bytes nid : Nat} {rows : List (List AV)} (h : Rep K sz S rows) {xs : List (List AV)} (h0 : xs ≠ []) (hs : allSz sz xs = true) (hb : (rows.length + xs.length) * bytes ≤ 140737488355328) (L : List Blk) :
    appA nid (hx K L) sz bytes S xs = some (.sl nid 0 (rows.length + xs.length), (hx (kill K S) L).put nid (.row false sz (rows ++ xs))) := by
  have hl : xs.length ≠ 0 := fun e => h0 (List.eq_nil_of_length_eq_zero e)
  rcases h with ⟨rfl, rfl⟩ | ⟨id, rfl, hr⟩
  · rw [appA_nil, if_neg hl, if_pos ⟨by simpa using hb, hs⟩]
    simp [kill]
  · have lid := Heap.get_lt hr
    rw [appA_sl, hx_get_old K L id lid, hr]
    simp only
    rw [if_pos ⟨by trivial, by omega, hb, hs⟩, hx_set_old K L _ id lid, List.drop_zero, List.take_of_length_le (Nat.le_refl _)]
    rfl
theorem kill_old {K : Heap} {S : AV} {sz : Nat} {rows : List (List AV)} (h : Rep K sz S rows) {j : Nat} {b : Blk} (hj : K.get j = some b) (hb : ∀ r, b ≠ .row false sz r) (L : List Blk) : (hx (kill K S) L).get j = some b := by
  rw [hx_get_old _ _ _ (by rw [kill_next]; exact Heap.get_lt hj)]
  exact kill_get h hj hb
theorem get_old {K : Heap} {j : Nat} {b : Blk} (hj : K.get j = some b) (L : List Blk) : (hx K L).get j = some b := by
  rw [hx_get_old _ _ _ (Heap.get_lt hj), hj]

/-! ### keys -/
def keyC (b : Bytes) : List AV := [encB b]
def encKs (l : List Bytes) : AV := .lst (l.map keyC)
def keysM (n : NodeM) : List Bytes := n.items.map (·.key) ++ (n.kids.drop 1).map (·.key)
theorem len_keyC (b : Bytes) : (keyC b).length = 1 := rfl
theorem rep_take {α : Type} (g : α → List AV) {l : List α} {i : Nat} (h : i < l.length) : (l.take (i + 1)).map g = (l.take i).map g ++ [g l[i]] := by
  rw [List.take_succ_eq_append_getElem h, List.map_append]; rfl
theorem l70a (n : NodeM) (hs : n.items.length ≤ 1000) {Q : AExit → Env → Heap → Prop}
   (hex : ∀ f' K S, Rep K 1 S (n.items.map fun x => keyC x.key) → K.get 0 = some (.box false (nodeC n)) → f' 1 = .ptr 0 0 0 → f' 3 = S → Q (.exit 0) (mkE 38 f') (hx K [])) :
   ∀ (d i : Nat) (S : AV) (K : Heap) (f : Nat → AV), i + d = n.items.length → Rep K 1 S ((n.items.take i).map fun x => keyC x.key) → K.get 0 = some (.box false (nodeC n)) →
    f 1 = .ptr 0 0 0 → f 3 = S → f 9 = encI n.items → f 10 = int n.items.length → f 11 = int i →
    AW ft (.loop c70L0) (mkE 38 f) (hx K []) Q := by
  intro d
  induction d with
  | zero =>
    intro i S K f hd hr k0 h1 h3 h9 h10 h11
    have g : ((i : Int) < n.items.length) = False := by simp; omega
    rw [AW_loop]
    unfold c70L0
    rw [List.take_of_length_le (by omega)] at hr
    simp only [↓vp, vq0, vq1, vq2, vq3, vr0, vr1, vr2, vr3, vr4, vr5, vr6, vr7, vr8, vr9, vr10, vr11, vr12, vr13, vr14, vr15, vr16, vr17, vr18, vr19, vr20, vr21, vr22, vr23, vr24, vr25, vr26, vr27, vr28, vr29, vr30, vr31, vr32, vr33, vr34, opS, fpS, okP, pack, nAl, allocA, shId, leaves, fillA, fillR, splice, Nat.reduceLT, Nat.reduceEqDiff, Nat.reduceLeDiff, Nat.reduceAdd, Nat.reduceSub, Nat.reduceMul, Int.reduceBEq, Int.reduceBNe, Int.reduceLT, Int.reduceLE, Int.reduceEq, reduceIte, reduceCtorEq, da, int, boolA, h10, h11, g]
    refine hex _ K S hr k0 ?_ ?_ <;> simp only [↓vp, vq0, vq1, vq2, vq3, vr0, vr1, vr2, vr3, vr4, vr5, vr6, vr7, vr8, vr9, vr10, vr11, vr12, vr13, vr14, vr15, vr16, vr17, vr18, vr19, vr20, vr21, vr22, vr23, vr24, vr25, vr26, vr27, vr28, vr29, vr30, vr31, vr32, vr33, vr34, opS, fpS, okP, pack, nAl, allocA, shId, leaves, fillA, fillR, splice, Nat.reduceLT, Nat.reduceEqDiff, Nat.reduceLeDiff, Nat.reduceAdd, Nat.reduceSub, Nat.reduceMul, Int.reduceBEq, Int.reduceBNe, Int.reduceLT, Int.reduceLE, Int.reduceEq, reduceIte, reduceCtorEq, da, int, boolA, h1, h3]
  | succ d ih =>
    intro i S K f hd hr k0 h1 h3 h9 h10 h11
    have g : ((i : Int) < n.items.length) = True := by simp; omega
    have gi : i < n.items.length := by omega
    have w1 := wrap_succ (show i < 9223372036854775807 by omega)
    have ht := rep_take (fun x : ItemM => keyC x.key) gi
    have hlen : ((n.items.take i).map fun x => keyC x.key).length = i := by simp; omega
    have ap := fun nid L => appA_rep (nid := nid) (bytes := 24) hr (xs := [keyC n.items[i].key]) (by simp) rfl (by rw [hlen]; simp; omega) L
    rw [AW_loop]
    unfold c70L0
    simp only [keyC] at ap
    have hlt : (n.items.take i).length = i := by simp; omega
    simp only [↓vp, vq0, vq1, vq2, vq3, vr0, vr1, vr2, vr3, vr4, vr5, vr6, vr7, vr8, vr9, vr10, vr11, vr12, vr13, vr14, vr15, vr16, vr17, vr18, vr19, vr20, vr21, vr22, vr23, vr24, vr25, vr26, vr27, vr28, vr29, vr30, vr31, vr32, vr33, vr34, opS, fpS, okP, pack, nAl, allocA, shId, leaves, fillA, fillR, splice, Nat.reduceLT, Nat.reduceEqDiff, Nat.reduceLeDiff, Nat.reduceAdd, Nat.reduceSub, Nat.reduceMul, Int.reduceBEq, Int.reduceBNe, Int.reduceLT, Int.reduceLE, Int.reduceEq, reduceIte, reduceCtorEq, da, int, boolA, h1, h3, h9, h10, h11, g, atI gi, cI gi, ap, kill_next, w1, hlt]
    rw [← hx_nil (hx _ _)]
    refine ih (i + 1) (.sl (K.next + 2) 0 (i + 1)) _ _ (by omega) (.inr ⟨K.next + 2, ?_, ?_⟩) (kill_old hr k0 (fun r h => by cases h) _) ?_ ?_ ?_ ?_ ?_
    · rw [ht, List.length_append, hlen]
      rfl
    · rw [ht]
      simp only [↓vp, vq0, vq1, vq2, vq3, vr0, vr1, vr2, vr3, vr4, vr5, vr6, vr7, vr8, vr9, vr10, vr11, vr12, vr13, vr14, vr15, vr16, vr17, vr18, vr19, vr20, vr21, vr22, vr23, vr24, vr25, vr26, vr27, vr28, vr29, vr30, vr31, vr32, vr33, vr34, opS, fpS, okP, pack, nAl, allocA, shId, leaves, fillA, fillR, splice, Nat.reduceLT, Nat.reduceEqDiff, Nat.reduceLeDiff, Nat.reduceAdd, Nat.reduceSub, Nat.reduceMul, Int.reduceBEq, Int.reduceBNe, Int.reduceLT, Int.reduceLE, Int.reduceEq, reduceIte, reduceCtorEq, kill_next]
      rfl
    all_goals simp only [↓vp, vq0, vq1, vq2, vq3, vr0, vr1, vr2, vr3, vr4, vr5, vr6, vr7, vr8, vr9, vr10, vr11, vr12, vr13, vr14, vr15, vr16, vr17, vr18, vr19, vr20, vr21, vr22, vr23, vr24, vr25, vr26, vr27, vr28, vr29, vr30, vr31, vr32, vr33, vr34, opS, fpS, okP, pack, nAl, allocA, shId, leaves, fillA, fillR, splice, Nat.reduceLT, Nat.reduceEqDiff, Nat.reduceLeDiff, Nat.reduceAdd, Nat.reduceSub, Nat.reduceMul, Int.reduceBEq, Int.reduceBNe, Int.reduceLT, Int.reduceLE, Int.reduceEq, reduceIte, reduceCtorEq, da, int, boolA, h1, h9, h10, hlt]
theorem l70b (n : NodeM) (hs : n.kids.length ≤ 1000) (rows : List (List AV)) (hrw : rows.length ≤ 1000) {Q : AExit → Env → Heap → Prop}
   (hex : ∀ f' K S, Rep K 1 S (rows ++ ((n.kids.drop 1).map fun x => keyC x.key)) → f' 3 = S → Q (.exit 2) (mkE 38 f') (hx K [])) :
   ∀ (d i : Nat) (S : AV) (K : Heap) (f : Nat → AV), i + d = n.kids.length → Rep K 1 S (rows ++ (((n.kids.take i).drop 1).map fun x => keyC x.key)) →
    f 3 = S → f 22 = encK n.kids → f 23 = int n.kids.length → f 24 = int i →
    AW ft (.loop c70L1) (mkE 38 f) (hx K []) Q := by
  intro d
  induction d with
  | zero =>
    intro i S K f hd hr h3 h9 h10 h11
    have g : ((i : Int) < n.kids.length) = False := by simp; omega
    rw [AW_loop]
    unfold c70L1
    rw [List.take_of_length_le (by omega)] at hr
    simp only [↓vp, vq0, vq1, vq2, vq3, vr0, vr1, vr2, vr3, vr4, vr5, vr6, vr7, vr8, vr9, vr10, vr11, vr12, vr13, vr14, vr15, vr16, vr17, vr18, vr19, vr20, vr21, vr22, vr23, vr24, vr25, vr26, vr27, vr28, vr29, vr30, vr31, vr32, vr33, vr34, opS, fpS, okP, pack, nAl, allocA, shId, leaves, fillA, fillR, splice, Nat.reduceLT, Nat.reduceEqDiff, Nat.reduceLeDiff, Nat.reduceAdd, Nat.reduceSub, Nat.reduceMul, Int.reduceBEq, Int.reduceBNe, Int.reduceLT, Int.reduceLE, Int.reduceEq, reduceIte, reduceCtorEq, da, int, boolA, h10, h11, g]
    refine hex _ K S hr ?_
    simp only [↓vp, vq0, vq1, vq2, vq3, vr0, vr1, vr2, vr3, vr4, vr5, vr6, vr7, vr8, vr9, vr10, vr11, vr12, vr13, vr14, vr15, vr16, vr17, vr18, vr19, vr20, vr21, vr22, vr23, vr24, vr25, vr26, vr27, vr28, vr29, vr30, vr31, vr32, vr33, vr34, opS, fpS, okP, pack, nAl, allocA, shId, leaves, fillA, fillR, splice, Nat.reduceLT, Nat.reduceEqDiff, Nat.reduceLeDiff, Nat.reduceAdd, Nat.reduceSub, Nat.reduceMul, Int.reduceBEq, Int.reduceBNe, Int.reduceLT, Int.reduceLE, Int.reduceEq, reduceIte, reduceCtorEq, da, int, boolA, h3]
  | succ d ih =>
    intro i S K f hd hr h3 h9 h10 h11
    have g : ((i : Int) < n.kids.length) = True := by simp; omega
    have gi : i < n.kids.length := by omega
    have w1 := wrap_succ (show i < 9223372036854775807 by omega)
    rw [AW_loop]
    unfold c70L1
    by_cases h0 : i = 0
    · subst h0
      have g0 : ((0 : Int) < ((0 : Nat) : Int)) = False := by simp
      simp only [↓vp, vq0, vq1, vq2, vq3, vr0, vr1, vr2, vr3, vr4, vr5, vr6, vr7, vr8, vr9, vr10, vr11, vr12, vr13, vr14, vr15, vr16, vr17, vr18, vr19, vr20, vr21, vr22, vr23, vr24, vr25, vr26, vr27, vr28, vr29, vr30, vr31, vr32, vr33, vr34, opS, fpS, okP, pack, nAl, allocA, shId, leaves, fillA, fillR, splice, Nat.reduceLT, Nat.reduceEqDiff, Nat.reduceLeDiff, Nat.reduceAdd, Nat.reduceSub, Nat.reduceMul, Int.reduceBEq, Int.reduceBNe, Int.reduceLT, Int.reduceLE, Int.reduceEq, reduceIte, reduceCtorEq, da, int, boolA, h3, h9, h10, h11, g, g0, atK gi, cK gi, w1]
      rw [← hx_nil (hx _ _)]
      refine ih 1 S _ _ (by omega) ?_ ?_ ?_ ?_ ?_
      · have : (n.kids.take 1).drop 1 = [] := by simp
        rw [this]
        rw [List.take_zero, List.drop_nil] at hr
        exact hr.mono fun id h => get_old h _
      all_goals simp only [↓vp, vq0, vq1, vq2, vq3, vr0, vr1, vr2, vr3, vr4, vr5, vr6, vr7, vr8, vr9, vr10, vr11, vr12, vr13, vr14, vr15, vr16, vr17, vr18, vr19, vr20, vr21, vr22, vr23, vr24, vr25, vr26, vr27, vr28, vr29, vr30, vr31, vr32, vr33, vr34, opS, fpS, okP, pack, nAl, allocA, shId, leaves, fillA, fillR, splice, Nat.reduceLT, Nat.reduceEqDiff, Nat.reduceLeDiff, Nat.reduceAdd, Nat.reduceSub, Nat.reduceMul, Int.reduceBEq, Int.reduceBNe, Int.reduceLT, Int.reduceLE, Int.reduceEq, reduceIte, reduceCtorEq, da, int, boolA, h3, h9, h10]
    · have g0 : ((0 : Int) < (i : Int)) = True := eq_true (by omega)
      have ht : ((n.kids.take (i + 1)).drop 1) = ((n.kids.take i).drop 1) ++ [n.kids[i]] := by
        rw [List.take_succ_eq_append_getElem gi, List.drop_append_of_le_length (by simp; omega)]
      have hlen : (rows ++ (((n.kids.take i).drop 1).map fun x => keyC x.key)).length ≤ 2000 := by simp; omega
      have ap := fun nid L => appA_rep (nid := nid) (bytes := 24) hr (xs := [keyC n.kids[i].key]) (by simp) rfl (by simp only [List.length_singleton]; omega) L
      simp only [keyC] at ap
      simp only [↓vp, vq0, vq1, vq2, vq3, vr0, vr1, vr2, vr3, vr4, vr5, vr6, vr7, vr8, vr9, vr10, vr11, vr12, vr13, vr14, vr15, vr16, vr17, vr18, vr19, vr20, vr21, vr22, vr23, vr24, vr25, vr26, vr27, vr28, vr29, vr30, vr31, vr32, vr33, vr34, opS, fpS, okP, pack, nAl, allocA, shId, leaves, fillA, fillR, splice, Nat.reduceLT, Nat.reduceEqDiff, Nat.reduceLeDiff, Nat.reduceAdd, Nat.reduceSub, Nat.reduceMul, Int.reduceBEq, Int.reduceBNe, Int.reduceLT, Int.reduceLE, Int.reduceEq, reduceIte, reduceCtorEq, da, int, boolA, h3, h9, h10, h11, g, g0, atK gi, cK gi, ap, kill_next, w1]
      rw [← hx_nil (hx _ _)]
      refine ih (i + 1) (.sl (K.next + 2) 0 (rows ++ (((n.kids.take (i + 1)).drop 1).map fun x => keyC x.key)).length) _ _ (by omega) (.inr ⟨K.next + 2, ?_, ?_⟩) ?_ ?_ ?_ ?_
      · rfl
      · rw [ht]
        simp only [↓vp, vq0, vq1, vq2, vq3, vr0, vr1, vr2, vr3, vr4, vr5, vr6, vr7, vr8, vr9, vr10, vr11, vr12, vr13, vr14, vr15, vr16, vr17, vr18, vr19, vr20, vr21, vr22, vr23, vr24, vr25, vr26, vr27, vr28, vr29, vr30, vr31, vr32, vr33, vr34, opS, fpS, okP, pack, nAl, allocA, shId, leaves, fillA, fillR, splice, Nat.reduceLT, Nat.reduceEqDiff, Nat.reduceLeDiff, Nat.reduceAdd, Nat.reduceSub, Nat.reduceMul, Int.reduceBEq, Int.reduceBNe, Int.reduceLT, Int.reduceLE, Int.reduceEq, reduceIte, reduceCtorEq, kill_next, List.map_append, List.append_assoc]
        rfl
      · rw [ht]
        simp only [↓vp, vq0, vq1, vq2, vq3, vr0, vr1, vr2, vr3, vr4, vr5, vr6, vr7, vr8, vr9, vr10, vr11, vr12, vr13, vr14, vr15, vr16, vr17, vr18, vr19, vr20, vr21, vr22, vr23, vr24, vr25, vr26, vr27, vr28, vr29, vr30, vr31, vr32, vr33, vr34, opS, fpS, okP, pack, nAl, allocA, shId, leaves, fillA, fillR, splice, Nat.reduceLT, Nat.reduceEqDiff, Nat.reduceLeDiff, Nat.reduceAdd, Nat.reduceSub, Nat.reduceMul, Int.reduceBEq, Int.reduceBNe, Int.reduceLT, Int.reduceLE, Int.reduceEq, reduceIte, reduceCtorEq, da, int, boolA, List.map_append, List.length_append, Nat.add_assoc, keyC]
      all_goals simp only [↓vp, vq0, vq1, vq2, vq3, vr0, vr1, vr2, vr3, vr4, vr5, vr6, vr7, vr8, vr9, vr10, vr11, vr12, vr13, vr14, vr15, vr16, vr17, vr18, vr19, vr20, vr21, vr22, vr23, vr24, vr25, vr26, vr27, vr28, vr29, vr30, vr31, vr32, vr33, vr34, opS, fpS, okP, pack, nAl, allocA, shId, leaves, fillA, fillR, splice, Nat.reduceLT, Nat.reduceEqDiff, Nat.reduceLeDiff, Nat.reduceAdd, Nat.reduceSub, Nat.reduceMul, Int.reduceBEq, Int.reduceBNe, Int.reduceLT, Int.reduceLE, Int.reduceEq, reduceIte, reduceCtorEq, da, int, boolA, h9, h10]
theorem s70 (n : NodeM) (h1 : n.items.length ≤ 1000) (h2 : n.kids.length ≤ 1000) (H : Heap) : callL ft (.fn (.func 70) [] []) [.agg (nodeC n)] H = some (encKs (keysM n), H) := by
  refine call_p (as' := [.agg (nodeC n)]) rfl rfl (by simp) ?_
  unfold c70 r70
  simp only [↓vp, vq0, vq1, vq2, vq3, vr0, vr1, vr2, vr3, vr4, vr5, vr6, vr7, vr8, vr9, vr10, vr11, vr12, vr13, vr14, vr15, vr16, vr17, vr18, vr19, vr20, vr21, vr22, vr23, vr24, vr25, vr26, vr27, vr28, vr29, vr30, vr31, vr32, vr33, vr34, opS, fpS, okP, pack, nAl, allocA, shId, leaves, fillA, fillR, splice, Nat.reduceLT, Nat.reduceEqDiff, Nat.reduceLeDiff, Nat.reduceAdd, Nat.reduceSub, Nat.reduceMul, Int.reduceBEq, Int.reduceBNe, Int.reduceLT, Int.reduceLE, Int.reduceEq, reduceIte, reduceCtorEq, da, int, boolA]
  rw [← hx_nil (hx _ _)]
  refine l70a n h1 (fun f' K S hr k0 q1 q3 => ?_) n.items.length 0 (.sc (.slice none 0 0)) _ _ (by simp) (.inl ⟨rfl, by simp⟩) ?_ ?_ ?_ ?_ ?_ ?_
  · unfold c70R3
    have o0 := get_old k0
    simp only [↓vp, vq0, vq1, vq2, vq3, vr0, vr1, vr2, vr3, vr4, vr5, vr6, vr7, vr8, vr9, vr10, vr11, vr12, vr13, vr14, vr15, vr16, vr17, vr18, vr19, vr20, vr21, vr22, vr23, vr24, vr25, vr26, vr27, vr28, vr29, vr30, vr31, vr32, vr33, vr34, opS, fpS, okP, pack, nAl, allocA, shId, leaves, fillA, fillR, splice, Nat.reduceLT, Nat.reduceEqDiff, Nat.reduceLeDiff, Nat.reduceAdd, Nat.reduceSub, Nat.reduceMul, Int.reduceBEq, Int.reduceBNe, Int.reduceLT, Int.reduceLE, Int.reduceEq, reduceIte, reduceCtorEq, da, int, boolA, q1, q3, o0]
    refine l70b n h2 (n.items.map fun x => keyC x.key) (by simpa using h1) (fun f' K S hr q3 => ?_) n.kids.length 0 S _ _ (by simp) ?_ ?_ ?_ ?_ ?_
    · unfold c70R2
      obtain ⟨K', hK'⟩ := frz_rep (L := []) (by rw [hx_nil]; exact hr) 23
      simp only [↓vp, vq0, vq1, vq2, vq3, vr0, vr1, vr2, vr3, vr4, vr5, vr6, vr7, vr8, vr9, vr10, vr11, vr12, vr13, vr14, vr15, vr16, vr17, vr18, vr19, vr20, vr21, vr22, vr23, vr24, vr25, vr26, vr27, vr28, vr29, vr30, vr31, vr32, vr33, vr34, opS, fpS, okP, pack, nAl, allocA, shId, leaves, fillA, fillR, splice, Nat.reduceLT, Nat.reduceEqDiff, Nat.reduceLeDiff, Nat.reduceAdd, Nat.reduceSub, Nat.reduceMul, Int.reduceBEq, Int.reduceBNe, Int.reduceLT, Int.reduceLE, Int.reduceEq, reduceIte, reduceCtorEq, da, int, boolA, RetP_go, resT, resC, resN, retV1, retV2, retV3, retV0, frzFZ, takeM, Option.some.injEq, q3, hK']
      simp only [encKs, keysM, List.map_append, List.map_map]
      rfl
    · rw [List.take_zero, List.drop_nil, List.map_nil, List.append_nil]
      exact hr
    all_goals simp only [↓vp, vq0, vq1, vq2, vq3, vr0, vr1, vr2, vr3, vr4, vr5, vr6, vr7, vr8, vr9, vr10, vr11, vr12, vr13, vr14, vr15, vr16, vr17, vr18, vr19, vr20, vr21, vr22, vr23, vr24, vr25, vr26, vr27, vr28, vr29, vr30, vr31, vr32, vr33, vr34, opS, fpS, okP, pack, nAl, allocA, shId, leaves, fillA, fillR, splice, Nat.reduceLT, Nat.reduceEqDiff, Nat.reduceLeDiff, Nat.reduceAdd, Nat.reduceSub, Nat.reduceMul, Int.reduceBEq, Int.reduceBNe, Int.reduceLT, Int.reduceLE, Int.reduceEq, reduceIte, reduceCtorEq, da, int, boolA, q3]
    try rfl
  all_goals first | rfl | (simp only [↓vp, vq0, vq1, vq2, vq3, vr0, vr1, vr2, vr3, vr4, vr5, vr6, vr7, vr8, vr9, vr10, vr11, vr12, vr13, vr14, vr15, vr16, vr17, vr18, vr19, vr20, vr21, vr22, vr23, vr24, vr25, vr26, vr27, vr28, vr29, vr30, vr31, vr32, vr33, vr34, opS, fpS, okP, pack, nAl, allocA, shId, leaves, fillA, fillR, splice, Nat.reduceLT, Nat.reduceEqDiff, Nat.reduceLeDiff, Nat.reduceAdd, Nat.reduceSub, Nat.reduceMul, Int.reduceBEq, Int.reduceBNe, Int.reduceLT, Int.reduceLE, Int.reduceEq, reduceIte, reduceCtorEq, da, int, boolA]; done)
theorem k70 {n : NodeM} (h1 : n.items.length ≤ 1000) (h2 : n.kids.length ≤ 1000) {K : Heap} {L : List Blk} {Q : AV → Heap → Prop} :
    KW ft (.fn (.func 70) [] []) [.agg (nodeC n)] (hx K L) Q ↔ Q (encKs (keysM n)) (hx K L) := KW_of (s70 n h1 h2 _)

/-! ### places -/
structure PlaceM where
  ref : Int
  deep : Int
  li : Bool
  lk : Bytes
  hi : Bool
  hk : Bytes
def placeC (p : PlaceM) (a b : AV) : List AV := [int p.ref, int p.deep, boolA p.li, a, boolA p.hi, b]
/-- Bytes, or a nil slice. -/
def NB (a : AV) (l : Bytes) : Prop := a = encB l ∨ (a = .sc (.slice none 0 0) ∧ l = [])
theorem NB.fz {a : AV} {l : Bytes} (h : NB a l) (n : Nat) (H : Heap) : frz (n + 1) H a = some (encB l, H) := by
  rcases h with rfl | ⟨rfl, rfl⟩ <;> rfl
theorem NB.one {a : AV} {l : Bytes} (h : NB a l) : a.one = true := by
  rcases h with rfl | ⟨rfl, rfl⟩ <;> rfl
theorem NB.cs {a : AV} {l : Bytes} (h : NB a l) : a.cells = [a] := by
  rcases h with rfl | ⟨rfl, rfl⟩ <;> rfl
theorem nb_B (l : Bytes) : NB (encB l) l := .inl rfl
structure okP_ (p : PlaceM) : Prop where
  l : okB p.lk
  h : okB p.hk
def bndM (p : PlaceM) (key : Bytes) : Bool := (!p.li || decide (0 ≤ cmpB key p.lk)) && (!p.hi || decide (cmpB key p.hk < 0))
theorem s71 {p : PlaceM} {a b : AV} (ha : NB a p.lk) (hb : NB b p.hk) (hp : okP_ p) {key : Bytes} (hk : okB key) (H : Heap) :
    callL ft (.fn (.func 71) [] []) [.agg (placeC p a b), encB key] H = some (boolA (bndM p key), H) := by
  refine call_p (as' := [.agg (placeC p (encB p.lk) (encB p.hk)), encB key]) rfl (by
    rcases ha with rfl | ⟨rfl, h⟩ <;> rcases hb with rfl | ⟨rfl, h'⟩ <;> first | rfl | (rw [h, h']; rfl) | (rw [h]; rfl) | (rw [h']; rfl)) (by simp) ?_
  have hl := hp.l
  have hh := hp.h
  unfold c71 r71 bndM placeC
  cases e1 : p.li with
  | false =>
    cases e2 : p.hi with
    | false => simp only [↓vp, vq0, vq1, vq2, vq3, vr0, vr1, vr2, vr3, vr4, vr5, vr6, vr7, vr8, vr9, vr10, vr11, vr12, vr13, vr14, vr15, vr16, vr17, vr18, vr19, vr20, vr21, vr22, vr23, vr24, vr25, vr26, vr27, vr28, vr29, vr30, vr31, vr32, vr33, vr34, opS, fpS, okP, pack, nAl, allocA, shId, leaves, fillA, fillR, splice, Nat.reduceLT, Nat.reduceEqDiff, Nat.reduceLeDiff, Nat.reduceAdd, Nat.reduceSub, Nat.reduceMul, Int.reduceBEq, Int.reduceBNe, Int.reduceLT, Int.reduceLE, Int.reduceEq, reduceIte, reduceCtorEq, da, int, boolA, RetP_go, resT, resC, resN, retV1, retV2, retV3, retV0, frzFZ, takeM, Option.some.injEq, e1, e2]; rfl
    | true => simp only [↓vp, vq0, vq1, vq2, vq3, vr0, vr1, vr2, vr3, vr4, vr5, vr6, vr7, vr8, vr9, vr10, vr11, vr12, vr13, vr14, vr15, vr16, vr17, vr18, vr19, vr20, vr21, vr22, vr23, vr24, vr25, vr26, vr27, vr28, vr29, vr30, vr31, vr32, vr33, vr34, opS, fpS, okP, pack, nAl, allocA, shId, leaves, fillA, fillR, splice, Nat.reduceLT, Nat.reduceEqDiff, Nat.reduceLeDiff, Nat.reduceAdd, Nat.reduceSub, Nat.reduceMul, Int.reduceBEq, Int.reduceBNe, Int.reduceLT, Int.reduceLE, Int.reduceEq, reduceIte, reduceCtorEq, da, int, boolA, RetP_go, resT, resC, resN, retV1, retV2, retV3, retV0, frzFZ, takeM, Option.some.injEq, e1, e2, k40, hh, hk]; rfl
  | true =>
    cases e3 : decide (0 ≤ cmpB key p.lk) with
    | false => simp only [↓vp, vq0, vq1, vq2, vq3, vr0, vr1, vr2, vr3, vr4, vr5, vr6, vr7, vr8, vr9, vr10, vr11, vr12, vr13, vr14, vr15, vr16, vr17, vr18, vr19, vr20, vr21, vr22, vr23, vr24, vr25, vr26, vr27, vr28, vr29, vr30, vr31, vr32, vr33, vr34, opS, fpS, okP, pack, nAl, allocA, shId, leaves, fillA, fillR, splice, Nat.reduceLT, Nat.reduceEqDiff, Nat.reduceLeDiff, Nat.reduceAdd, Nat.reduceSub, Nat.reduceMul, Int.reduceBEq, Int.reduceBNe, Int.reduceLT, Int.reduceLE, Int.reduceEq, reduceIte, reduceCtorEq, da, int, boolA, RetP_go, resT, resC, resN, retV1, retV2, retV3, retV0, frzFZ, takeM, Option.some.injEq, e1, e3, k40, hl, hh, hk]; rfl
    | true =>
      cases e2 : p.hi with
      | false => simp only [↓vp, vq0, vq1, vq2, vq3, vr0, vr1, vr2, vr3, vr4, vr5, vr6, vr7, vr8, vr9, vr10, vr11, vr12, vr13, vr14, vr15, vr16, vr17, vr18, vr19, vr20, vr21, vr22, vr23, vr24, vr25, vr26, vr27, vr28, vr29, vr30, vr31, vr32, vr33, vr34, opS, fpS, okP, pack, nAl, allocA, shId, leaves, fillA, fillR, splice, Nat.reduceLT, Nat.reduceEqDiff, Nat.reduceLeDiff, Nat.reduceAdd, Nat.reduceSub, Nat.reduceMul, Int.reduceBEq, Int.reduceBNe, Int.reduceLT, Int.reduceLE, Int.reduceEq, reduceIte, reduceCtorEq, da, int, boolA, RetP_go, resT, resC, resN, retV1, retV2, retV3, retV0, frzFZ, takeM, Option.some.injEq, e1, e2, e3, k40, hl, hh, hk]; rfl
      | true => simp only [↓vp, vq0, vq1, vq2, vq3, vr0, vr1, vr2, vr3, vr4, vr5, vr6, vr7, vr8, vr9, vr10, vr11, vr12, vr13, vr14, vr15, vr16, vr17, vr18, vr19, vr20, vr21, vr22, vr23, vr24, vr25, vr26, vr27, vr28, vr29, vr30, vr31, vr32, vr33, vr34, opS, fpS, okP, pack, nAl, allocA, shId, leaves, fillA, fillR, splice, Nat.reduceLT, Nat.reduceEqDiff, Nat.reduceLeDiff, Nat.reduceAdd, Nat.reduceSub, Nat.reduceMul, Int.reduceBEq, Int.reduceBNe, Int.reduceLT, Int.reduceLE, Int.reduceEq, reduceIte, reduceCtorEq, da, int, boolA, RetP_go, resT, resC, resN, retV1, retV2, retV3, retV0, frzFZ, takeM, Option.some.injEq, e1, e2, e3, k40, hl, hh, hk]; rfl
theorem k71 {p : PlaceM} {a b : AV} (ha : NB a p.lk) (hb : NB b p.hk) (hp : okP_ p) {key : Bytes} (hk : okB key) {K : Heap} {L : List Blk} {Q : AV → Heap → Prop} :
    KW ft (.fn (.func 71) [] []) [.agg (placeC p a b), encB key] (hx K L) Q ↔ Q (boolA (bndM p key)) (hx K L) := KW_of (s71 ha hb hp hk _)
end Go.VI

/- VI, part SP: All: a kid's place, form. -/
set_option linter.unusedVariables false
set_option linter.unusedSimpArgs false
set_option maxRecDepth 100000
namespace Go.VI
attribute [local congr] AW_congr OW_congr DW_congr NW_congr VW_congr GW_congr PW_congr KW_congr ite_congr' GV_congr CV_congr

def kidM (p : PlaceM) (n : NodeM) (k : Nat) : PlaceM :=
  ⟨((n.kids[k]?).map (·.ref)).getD 0, p.deep + 1, if 0 < k then true else p.li, if 0 < k then ((n.kids[k]?).map (·.key)).getD [] else p.lk,
    if k + 1 < n.kids.length then true else p.hi, if k + 1 < n.kids.length then ((n.kids[k + 1]?).map (·.key)).getD [] else p.hk⟩
def placeE (p : PlaceM) : List AV := placeC p (encB p.lk) (encB p.hk)
theorem zp (n : Nat) (H : Heap) (p : PlaceM) : frz.frzL (n + 8) H (placeE p) = some (placeE p, H) := rfl
theorem s56 {p : PlaceM} {a b : AV} (ha : NB a p.lk) (hb : NB b p.hk) {n : NodeM} (hn : okN n) (hd : 0 ≤ p.deep ∧ p.deep ≤ 100) {k : Nat} (hk : k < n.kids.length) (H : Heap) :
    callL ft (.fn (.func 56) [] []) [.agg (placeC p a b), .agg (nodeC n), int k] H = some (.agg (placeE (kidM p n k)), H) := by
  refine call_p (as' := [.agg (placeE p), .agg (nodeC n), int k]) rfl (by
    unfold placeE
    rcases ha with rfl | ⟨rfl, h⟩ <;> rcases hb with rfl | ⟨rfl, h'⟩ <;> first | rfl | (rw [h, h']; rfl) | (rw [h]; rfl) | (rw [h']; rfl)) (by simp) ?_
  have hi := hn.k.n
  unfold MX at hi
  have w1 := wrap_succ (show k < 9223372036854775807 by omega)
  have w2 : IntKind.i64.wrap (p.deep + 1) = p.deep + 1 := wrap_i64 (by omega)
  have c1 : ((((k + 1 : Nat) : Int) < n.kids.length)) = (k + 1 < n.kids.length) := propext (by omega)
  unfold c56 r56 kidM placeE placeC
  simp only [List.getElem?_eq_getElem hk, Option.map_some, Option.getD_some]
  by_cases h0 : 0 < k
  · have g0 : ((0 : Int) < (k : Int)) = True := eq_true (by omega)
    by_cases h1 : k + 1 < n.kids.length
    · simp only [↓vp, vq0, vq1, vq2, vq3, vr0, vr1, vr2, vr3, vr4, vr5, vr6, vr7, vr8, vr9, vr10, vr11, vr12, vr13, vr14, vr15, vr16, vr17, vr18, vr19, vr20, vr21, vr22, vr23, vr24, vr25, vr26, vr27, vr28, vr29, vr30, vr31, vr32, vr33, vr34, opS, fpS, okP, pack, nAl, allocA, shId, leaves, fillA, fillR, splice, Nat.reduceLT, Nat.reduceEqDiff, Nat.reduceLeDiff, Nat.reduceAdd, Nat.reduceSub, Nat.reduceMul, Int.reduceBEq, Int.reduceBNe, Int.reduceLT, Int.reduceLE, Int.reduceEq, reduceIte, reduceCtorEq, da, int, boolA, RetP_go, resT, resC, resN, retV1, retV2, retV3, retV0, frzFZ, takeM, Option.some.injEq, g0, h0, h1, c1, w1, w2, atK hk, cK hk, atK h1, cK h1, List.getElem?_eq_getElem h1, Option.getD_some]
      rfl
    · simp only [↓vp, vq0, vq1, vq2, vq3, vr0, vr1, vr2, vr3, vr4, vr5, vr6, vr7, vr8, vr9, vr10, vr11, vr12, vr13, vr14, vr15, vr16, vr17, vr18, vr19, vr20, vr21, vr22, vr23, vr24, vr25, vr26, vr27, vr28, vr29, vr30, vr31, vr32, vr33, vr34, opS, fpS, okP, pack, nAl, allocA, shId, leaves, fillA, fillR, splice, Nat.reduceLT, Nat.reduceEqDiff, Nat.reduceLeDiff, Nat.reduceAdd, Nat.reduceSub, Nat.reduceMul, Int.reduceBEq, Int.reduceBNe, Int.reduceLT, Int.reduceLE, Int.reduceEq, reduceIte, reduceCtorEq, da, int, boolA, RetP_go, resT, resC, resN, retV1, retV2, retV3, retV0, frzFZ, takeM, Option.some.injEq, g0, h0, h1, c1, w1, w2, atK hk, cK hk]
      rfl
  · have g0 : ((0 : Int) < (k : Int)) = False := eq_false (by omega)
    by_cases h1 : k + 1 < n.kids.length
    · simp only [↓vp, vq0, vq1, vq2, vq3, vr0, vr1, vr2, vr3, vr4, vr5, vr6, vr7, vr8, vr9, vr10, vr11, vr12, vr13, vr14, vr15, vr16, vr17, vr18, vr19, vr20, vr21, vr22, vr23, vr24, vr25, vr26, vr27, vr28, vr29, vr30, vr31, vr32, vr33, vr34, opS, fpS, okP, pack, nAl, allocA, shId, leaves, fillA, fillR, splice, Nat.reduceLT, Nat.reduceEqDiff, Nat.reduceLeDiff, Nat.reduceAdd, Nat.reduceSub, Nat.reduceMul, Int.reduceBEq, Int.reduceBNe, Int.reduceLT, Int.reduceLE, Int.reduceEq, reduceIte, reduceCtorEq, da, int, boolA, RetP_go, resT, resC, resN, retV1, retV2, retV3, retV0, frzFZ, takeM, Option.some.injEq, g0, h0, h1, c1, w1, w2, atK hk, cK hk, atK h1, cK h1, List.getElem?_eq_getElem h1, Option.getD_some]
      rfl
    · simp only [↓vp, vq0, vq1, vq2, vq3, vr0, vr1, vr2, vr3, vr4, vr5, vr6, vr7, vr8, vr9, vr10, vr11, vr12, vr13, vr14, vr15, vr16, vr17, vr18, vr19, vr20, vr21, vr22, vr23, vr24, vr25, vr26, vr27, vr28, vr29, vr30, vr31, vr32, vr33, vr34, opS, fpS, okP, pack, nAl, allocA, shId, leaves, fillA, fillR, splice, Nat.reduceLT, Nat.reduceEqDiff, Nat.reduceLeDiff, Nat.reduceAdd, Nat.reduceSub, Nat.reduceMul, Int.reduceBEq, Int.reduceBNe, Int.reduceLT, Int.reduceLE, Int.reduceEq, reduceIte, reduceCtorEq, da, int, boolA, RetP_go, resT, resC, resN, retV1, retV2, retV3, retV0, frzFZ, takeM, Option.some.injEq, g0, h0, h1, c1, w1, w2, atK hk, cK hk]
      rfl
theorem k56 {p : PlaceM} {a b : AV} (ha : NB a p.lk) (hb : NB b p.hk) {n : NodeM} (hn : okN n) (hd : 0 ≤ p.deep ∧ p.deep ≤ 100) {k : Nat} (hk : k < n.kids.length) {K : Heap} {L : List Blk} {Q : AV → Heap → Prop} :
    KW ft (.fn (.func 56) [] []) [.agg (placeC p a b), .agg (nodeC n), int k] (hx K L) Q ↔ Q (.agg (placeE (kidM p n k))) (hx K L) := KW_of (s56 ha hb hn hd hk _)

theorem RetO_go {rs : List ARes} {R : AV} {H1 : Heap} {x : AExit} {n : Nat} {f : Nat → AV} {H : Heap} : RetO rs R H1 x (mkE n f) H ↔ leaves x = true ∧ (rs.mapM (resOf H (mkE n f))).map retV = some R ∧ H = H1 := Iff.rfl
/-! ### form -/
theorem lenY (H : Heap) (l : List Bytes) : lenV H 0 (encKs l) = some (.sc (.int .i64 (l.length : Int)), H) := by simp [lenV, lenOfA, encKs]
theorem atY {H : Heap} {l : List Bytes} {i : Nat} (h : i < l.length) : iaddrA H none 1 (encKs l) (i : Int) = some (.pim (l.map keyC) i 0) := iaddr_map h len_keyC
theorem cY {H : Heap} {l : List Bytes} {i off n : Nat} (h : i < l.length) : cellsAt H (.pim (l.map keyC) i off) n = if off + n ≤ 1 then some (((keyC l[i]).drop off).take n) else none := cells_map h
theorem y_0 (b : Bytes) : (keyC b).take 1 = [encB b] := rfl
/-- Are keys between a place's, and do they rise? -/
def ksM (p : PlaceM) : Option Bytes → List Bytes → Bool
  | _, [] => true
  | prev, x :: l => bndM p x && (prev.elim true fun y => decide (cmpB y x < 0)) && ksM p (some x) l
theorem l68 {p : PlaceM} {a b : AV} (ha : NB a p.lk) (hb : NB b p.hk) (hp : okP_ p) (l : List Bytes) (hl : ∀ x ∈ l, okB x) (hi : l.length < MX) (R : Bool) {L : List Blk} {H : Heap} (hL : L[0]? = some (.box false (placeC p a b)))
   {Q : AExit → Env → Heap → Prop}
   (hex : ∀ f', R = true → Q (.exit 0) (mkE 106 f') (hx H L)) (hret : ∀ f', R = false → f' 6 = boolA false → Q .ret (mkE 106 f') (hx H L)) :
   ∀ (d i : Nat) (f : Nat → AV), i + d = l.length → R = ksM p (if i = 0 then none else l[i - 1]?) (l.drop i) → f 4 = .ptr H.next 0 0 → f 8 = encKs l → f 80 = encKs l → f 81 = int l.length → f 82 = int i →
    AW ft (.loop c68L0) (mkE 106 f) (hx H L) Q := by
  intro d
  unfold MX at hi
  induction d with
  | zero =>
    intro i f hd hR h4 h8 h80 h81 h82
    have g : ((i : Int) < l.length) = False := eq_false (by omega)
    rw [AW_loop]
    unfold c68L0
    simp only [↓vp, vq0, vq1, vq2, vq3, vr0, vr1, vr2, vr3, vr4, vr5, vr6, vr7, vr8, vr9, vr10, vr11, vr12, vr13, vr14, vr15, vr16, vr17, vr18, vr19, vr20, vr21, vr22, vr23, vr24, vr25, vr26, vr27, vr28, vr29, vr30, vr31, vr32, vr33, vr34, opS, fpS, okP, pack, nAl, allocA, shId, leaves, fillA, fillR, splice, Nat.reduceLT, Nat.reduceEqDiff, Nat.reduceLeDiff, Nat.reduceAdd, Nat.reduceSub, Nat.reduceMul, Int.reduceBEq, Int.reduceBNe, Int.reduceLT, Int.reduceLE, Int.reduceEq, reduceIte, reduceCtorEq, da, int, boolA, h81, h82, g]
    refine hex _ ?_
    rw [hR, List.drop_eq_nil_of_le (by omega)]
    cases (if i = 0 then none else l[i - 1]?) <;> rfl
  | succ d ih =>
    intro i f hd hR h4 h8 h80 h81 h82
    have g : ((i : Int) < l.length) = True := eq_true (by omega)
    have gi : i < l.length := by omega
    have w1 := wrap_succ (show i < 9223372036854775807 by omega)
    have hx_ := hl _ (List.getElem_mem gi)
    have x71 := fun K L Q => k71 ha hb hp hx_ (K := K) (L := L) (Q := Q)
    have c6 : (placeC p a b).take 6 = placeC p a b := rfl
    have cl : (placeC p a b).length = 6 := rfl
    rw [List.drop_eq_getElem_cons gi, ksM] at hR
    rw [AW_loop]
    unfold c68L0
    cases e1 : bndM p l[i] with
    | false =>
      rw [e1] at hR
      simp only [↓vp, vq0, vq1, vq2, vq3, vr0, vr1, vr2, vr3, vr4, vr5, vr6, vr7, vr8, vr9, vr10, vr11, vr12, vr13, vr14, vr15, vr16, vr17, vr18, vr19, vr20, vr21, vr22, vr23, vr24, vr25, vr26, vr27, vr28, vr29, vr30, vr31, vr32, vr33, vr34, opS, fpS, okP, pack, nAl, allocA, shId, leaves, fillA, fillR, splice, Nat.reduceLT, Nat.reduceEqDiff, Nat.reduceLeDiff, Nat.reduceAdd, Nat.reduceSub, Nat.reduceMul, Int.reduceBEq, Int.reduceBNe, Int.reduceLT, Int.reduceLE, Int.reduceEq, reduceIte, reduceCtorEq, da, int, boolA, h4, h8, h80, h81, h82, g, atY gi, cY gi, y_0, hL, c6, cl, x71, e1]
      refine hret _ (by simpa using hR) ?_
      simp only [↓vp, vq0, vq1, vq2, vq3, vr0, vr1, vr2, vr3, vr4, vr5, vr6, vr7, vr8, vr9, vr10, vr11, vr12, vr13, vr14, vr15, vr16, vr17, vr18, vr19, vr20, vr21, vr22, vr23, vr24, vr25, vr26, vr27, vr28, vr29, vr30, vr31, vr32, vr33, vr34, opS, fpS, okP, pack, nAl, allocA, shId, leaves, fillA, fillR, splice, Nat.reduceLT, Nat.reduceEqDiff, Nat.reduceLeDiff, Nat.reduceAdd, Nat.reduceSub, Nat.reduceMul, Int.reduceBEq, Int.reduceBNe, Int.reduceLT, Int.reduceLE, Int.reduceEq, reduceIte, reduceCtorEq, da, int, boolA]
    | true =>
      rw [e1] at hR
      cases i with
      | zero =>
        have g0 : ((0 : Int) < ((0 : Nat) : Int)) = False := by simp
        simp only [↓vp, vq0, vq1, vq2, vq3, vr0, vr1, vr2, vr3, vr4, vr5, vr6, vr7, vr8, vr9, vr10, vr11, vr12, vr13, vr14, vr15, vr16, vr17, vr18, vr19, vr20, vr21, vr22, vr23, vr24, vr25, vr26, vr27, vr28, vr29, vr30, vr31, vr32, vr33, vr34, opS, fpS, okP, pack, nAl, allocA, shId, leaves, fillA, fillR, splice, Nat.reduceLT, Nat.reduceEqDiff, Nat.reduceLeDiff, Nat.reduceAdd, Nat.reduceSub, Nat.reduceMul, Int.reduceBEq, Int.reduceBNe, Int.reduceLT, Int.reduceLE, Int.reduceEq, reduceIte, reduceCtorEq, da, int, boolA, h4, h8, h80, h81, h82, g, g0, atY gi, cY gi, y_0, hL, c6, cl, x71, e1, w1]
        refine ih 1 _ (by omega) ?_ ?_ ?_ ?_ ?_ ?_
        · rw [hR]
          simp [List.getElem?_eq_getElem gi]
        all_goals simp only [↓vp, vq0, vq1, vq2, vq3, vr0, vr1, vr2, vr3, vr4, vr5, vr6, vr7, vr8, vr9, vr10, vr11, vr12, vr13, vr14, vr15, vr16, vr17, vr18, vr19, vr20, vr21, vr22, vr23, vr24, vr25, vr26, vr27, vr28, vr29, vr30, vr31, vr32, vr33, vr34, opS, fpS, okP, pack, nAl, allocA, shId, leaves, fillA, fillR, splice, Nat.reduceLT, Nat.reduceEqDiff, Nat.reduceLeDiff, Nat.reduceAdd, Nat.reduceSub, Nat.reduceMul, Int.reduceBEq, Int.reduceBNe, Int.reduceLT, Int.reduceLE, Int.reduceEq, reduceIte, reduceCtorEq, da, int, boolA, h4, h8, h80, h81]
      | succ j =>
        have g0 : ((0 : Int) < ((j + 1 : Nat) : Int)) = True := eq_true (by omega)
        have gj : j < l.length := by omega
        have w0 := wrap_pred (show j < 9223372036854775807 by omega)
        have hy_ := hl _ (List.getElem_mem gj)
        simp only [Nat.add_sub_cancel, Nat.add_one_ne_zero, if_false, List.getElem?_eq_getElem gj, Option.elim_some, Bool.true_and] at hR
        cases e2 : decide (cmpB l[j] l[j + 1] < 0) with
        | false =>
          have e2' : ¬ cmpB l[j] l[j + 1] < 0 := by simpa using e2
          have e3 : (0 ≤ cmpB l[j] l[j + 1]) = True := eq_true (by omega)
          rw [e2] at hR
          simp only [↓vp, vq0, vq1, vq2, vq3, vr0, vr1, vr2, vr3, vr4, vr5, vr6, vr7, vr8, vr9, vr10, vr11, vr12, vr13, vr14, vr15, vr16, vr17, vr18, vr19, vr20, vr21, vr22, vr23, vr24, vr25, vr26, vr27, vr28, vr29, vr30, vr31, vr32, vr33, vr34, opS, fpS, okP, pack, nAl, allocA, shId, leaves, fillA, fillR, splice, Nat.reduceLT, Nat.reduceEqDiff, Nat.reduceLeDiff, Nat.reduceAdd, Nat.reduceSub, Nat.reduceMul, Int.reduceBEq, Int.reduceBNe, Int.reduceLT, Int.reduceLE, Int.reduceEq, reduceIte, reduceCtorEq, da, int, boolA, h4, h8, h80, h81, h82, g, g0, atY gi, cY gi, atY gj, cY gj, y_0, hL, c6, cl, x71, e1, w0, k40, hx_, hy_, e3]
          refine hret _ (by simpa using hR) ?_
          simp only [↓vp, vq0, vq1, vq2, vq3, vr0, vr1, vr2, vr3, vr4, vr5, vr6, vr7, vr8, vr9, vr10, vr11, vr12, vr13, vr14, vr15, vr16, vr17, vr18, vr19, vr20, vr21, vr22, vr23, vr24, vr25, vr26, vr27, vr28, vr29, vr30, vr31, vr32, vr33, vr34, opS, fpS, okP, pack, nAl, allocA, shId, leaves, fillA, fillR, splice, Nat.reduceLT, Nat.reduceEqDiff, Nat.reduceLeDiff, Nat.reduceAdd, Nat.reduceSub, Nat.reduceMul, Int.reduceBEq, Int.reduceBNe, Int.reduceLT, Int.reduceLE, Int.reduceEq, reduceIte, reduceCtorEq, da, int, boolA]
        | true =>
          have e2' : cmpB l[j] l[j + 1] < 0 := by simpa using e2
          have e3 : (0 ≤ cmpB l[j] l[j + 1]) = False := eq_false (by omega)
          rw [e2] at hR
          simp only [↓vp, vq0, vq1, vq2, vq3, vr0, vr1, vr2, vr3, vr4, vr5, vr6, vr7, vr8, vr9, vr10, vr11, vr12, vr13, vr14, vr15, vr16, vr17, vr18, vr19, vr20, vr21, vr22, vr23, vr24, vr25, vr26, vr27, vr28, vr29, vr30, vr31, vr32, vr33, vr34, opS, fpS, okP, pack, nAl, allocA, shId, leaves, fillA, fillR, splice, Nat.reduceLT, Nat.reduceEqDiff, Nat.reduceLeDiff, Nat.reduceAdd, Nat.reduceSub, Nat.reduceMul, Int.reduceBEq, Int.reduceBNe, Int.reduceLT, Int.reduceLE, Int.reduceEq, reduceIte, reduceCtorEq, da, int, boolA, h4, h8, h80, h81, h82, g, g0, atY gi, cY gi, atY gj, cY gj, y_0, hL, c6, cl, x71, e1, w0, w1, k40, hx_, hy_, e3]
          refine ih (j + 1 + 1) _ (by omega) ?_ ?_ ?_ ?_ ?_ ?_
          · rw [hR]
            simp [List.getElem?_eq_getElem gi]
          all_goals simp only [↓vp, vq0, vq1, vq2, vq3, vr0, vr1, vr2, vr3, vr4, vr5, vr6, vr7, vr8, vr9, vr10, vr11, vr12, vr13, vr14, vr15, vr16, vr17, vr18, vr19, vr20, vr21, vr22, vr23, vr24, vr25, vr26, vr27, vr28, vr29, vr30, vr31, vr32, vr33, vr34, opS, fpS, okP, pack, nAl, allocA, shId, leaves, fillA, fillR, splice, Nat.reduceLT, Nat.reduceEqDiff, Nat.reduceLeDiff, Nat.reduceAdd, Nat.reduceSub, Nat.reduceMul, Int.reduceBEq, Int.reduceBNe, Int.reduceLT, Int.reduceLE, Int.reduceEq, reduceIte, reduceCtorEq, da, int, boolA, h4, h8, h80, h81]
/-- May a node stand at its place? -/
def formM (depth : Int) (p : PlaceM) (n : NodeM) : Bool :=
  if n.leaf then
    !(decide (0 < (n.kids.length : Int))) && (!((n.items.length : Int) == 0) || p.deep == 1) && !(decide (0 < depth) && depth != p.deep) && ksM p none (keysM n)
  else !(decide (0 < (n.items.length : Int))) && !(decide ((n.kids.length : Int) < 2)) && ksM p none (keysM n)
theorem ok_keys {n : NodeM} (hn : okN n) : ∀ x ∈ keysM n, okB x := fun x hx => by
  rcases List.mem_append.1 hx with hx | hx
  · obtain ⟨y, hy, rfl⟩ := List.mem_map.1 hx
    exact (hn.i.h y hy).k
  · obtain ⟨y, hy, rfl⟩ := List.mem_map.1 hx
    exact hn.k.h y (List.mem_of_mem_drop hy)
theorem s68 {p : PlaceM} {a b : AV} (ha : NB a p.lk) (hb : NB b p.hk) (hp : okP_ p) {n : NodeM} (hn : okN n) (h1 : n.items.length ≤ 1000) (h2 : n.kids.length ≤ 1000) {H : Heap} {wid : Nat} {w0 w1 w2 w4 : AV} {depth : Int}
   (hw : H.get wid = some (.box false [w0, w1, w2, int depth, w4])) :
    callL ft (.fn (.func 68) [] []) [.ptr wid 0 0, .agg (placeC p a b), .agg (nodeC n)] H = some (boolA (formM depth p n), hx H [.box false (placeC p a b), .box false (nodeC n)]) := by
  refine call_o rfl (by simp) ?_
  have cl : (placeC p a b).length = 6 := rfl
  have ca : oneAll (placeC p a b) = true := by
    show (true && (true && (true && (a.one && (true && (b.one && true)))))) = true
    rw [ha.one, hb.one]; rfl
  have c1 : ((placeC p a b).drop 1).take 1 = [int p.deep] := rfl
  have ow := get_old hw
  have key : formM depth p n = ksM p none (keysM n) → ∀ (f : Nat → AV), f 4 = .ptr H.next 0 0 → f 8 = encKs (keysM n) → f 80 = encKs (keysM n) → f 81 = int (keysM n).length → f 82 = int 0 →
     AW ft (.loop c68L0) (mkE 106 f) (hx H [.box false (placeC p a b), .box false (nodeC n)]) (blockA 0 (thenA (fun e H' => AW ft c68R1 e H' (RetO r68 (boolA (formM depth p n)) (hx H [.box false (placeC p a b), .box false (nodeC n)]))) (RetO r68 (boolA (formM depth p n)) (hx H [.box false (placeC p a b), .box false (nodeC n)])))) := by
    intro hf f h4 h8 h80 h81 h82
    refine l68 ha hb hp (keysM n) (ok_keys hn) (by simp [keysM, MX]; omega) (formM depth p n) rfl (fun f' hR => ?_) (fun f' hR h6 => ?_) (keysM n).length 0 f (by simp) (by simpa using hf) h4 h8 h80 h81 h82
    · unfold c68R1 r68
      simp only [↓vp, vq0, vq1, vq2, vq3, vr0, vr1, vr2, vr3, vr4, vr5, vr6, vr7, vr8, vr9, vr10, vr11, vr12, vr13, vr14, vr15, vr16, vr17, vr18, vr19, vr20, vr21, vr22, vr23, vr24, vr25, vr26, vr27, vr28, vr29, vr30, vr31, vr32, vr33, vr34, opS, fpS, okP, pack, nAl, allocA, shId, leaves, fillA, fillR, splice, Nat.reduceLT, Nat.reduceEqDiff, Nat.reduceLeDiff, Nat.reduceAdd, Nat.reduceSub, Nat.reduceMul, Int.reduceBEq, Int.reduceBNe, Int.reduceLT, Int.reduceLE, Int.reduceEq, reduceIte, reduceCtorEq, da, int, boolA, hR]
      exact ⟨rfl, rfl, rfl⟩
    · unfold r68
      simp only [↓vp, vq0, vq1, vq2, vq3, vr0, vr1, vr2, vr3, vr4, vr5, vr6, vr7, vr8, vr9, vr10, vr11, vr12, vr13, vr14, vr15, vr16, vr17, vr18, vr19, vr20, vr21, vr22, vr23, vr24, vr25, vr26, vr27, vr28, vr29, vr30, vr31, vr32, vr33, vr34, opS, fpS, okP, pack, nAl, allocA, shId, leaves, fillA, fillR, splice, Nat.reduceLT, Nat.reduceEqDiff, Nat.reduceLeDiff, Nat.reduceAdd, Nat.reduceSub, Nat.reduceMul, Int.reduceBEq, Int.reduceBNe, Int.reduceLT, Int.reduceLE, Int.reduceEq, reduceIte, reduceCtorEq, da, int, boolA, hR]
      refine ⟨rfl, ?_, rfl⟩
      unfold resultsA
      rw [resT, resN, if_pos (by decide), h6]
      rfl
  have n_take3' : (nodeC n).take 3 = nodeC n := rfl
  unfold c68 r68
  have fin : formM depth p n = ksM p none (keysM n) → True := fun _ => trivial
  cases e1 : n.leaf with
  | true =>
    cases e2 : decide ((0 : Int) < n.kids.length) with
    | true =>
      have hf : formM depth p n = false := by unfold formM; simp only [e1, e2]; simp
      simp only [↓vp, vq0, vq1, vq2, vq3, vr0, vr1, vr2, vr3, vr4, vr5, vr6, vr7, vr8, vr9, vr10, vr11, vr12, vr13, vr14, vr15, vr16, vr17, vr18, vr19, vr20, vr21, vr22, vr23, vr24, vr25, vr26, vr27, vr28, vr29, vr30, vr31, vr32, vr33, vr34, opS, fpS, okP, pack, nAl, allocA, shId, leaves, fillA, fillR, splice, Nat.reduceLT, Nat.reduceEqDiff, Nat.reduceLeDiff, Nat.reduceAdd, Nat.reduceSub, Nat.reduceMul, Int.reduceBEq, Int.reduceBNe, Int.reduceLT, Int.reduceLE, Int.reduceEq, reduceIte, reduceCtorEq, da, int, boolA, RetO_go, resT, resC, resN, retV1, retV2, retV3, retV0, Option.some.injEq, cl, ca, c1, ow, hf, e1, e2]
    | false =>
      cases e3 : ((n.items.length : Int) == 0) with
      | true =>
        cases e4 : (p.deep == 1) with
        | true =>
          cases e5 : decide ((0 : Int) < depth) with
          | true =>
            cases e6 : (depth != p.deep) with
            | true =>
              have hf : formM depth p n = false := by unfold formM; simp only [e1, e2, e3, e4, e5, e6]; simp
              simp only [↓vp, vq0, vq1, vq2, vq3, vr0, vr1, vr2, vr3, vr4, vr5, vr6, vr7, vr8, vr9, vr10, vr11, vr12, vr13, vr14, vr15, vr16, vr17, vr18, vr19, vr20, vr21, vr22, vr23, vr24, vr25, vr26, vr27, vr28, vr29, vr30, vr31, vr32, vr33, vr34, opS, fpS, okP, pack, nAl, allocA, shId, leaves, fillA, fillR, splice, Nat.reduceLT, Nat.reduceEqDiff, Nat.reduceLeDiff, Nat.reduceAdd, Nat.reduceSub, Nat.reduceMul, Int.reduceBEq, Int.reduceBNe, Int.reduceLT, Int.reduceLE, Int.reduceEq, reduceIte, reduceCtorEq, da, int, boolA, RetO_go, resT, resC, resN, retV1, retV2, retV3, retV0, Option.some.injEq, cl, ca, c1, ow, hf, e1, e2, e3, e4, e5, e6]
            | false =>
              have hf : formM depth p n = ksM p none (keysM n) := by unfold formM; simp only [e1, e2, e3, e4, e5, e6]; simp
              simp only [↓vp, vq0, vq1, vq2, vq3, vr0, vr1, vr2, vr3, vr4, vr5, vr6, vr7, vr8, vr9, vr10, vr11, vr12, vr13, vr14, vr15, vr16, vr17, vr18, vr19, vr20, vr21, vr22, vr23, vr24, vr25, vr26, vr27, vr28, vr29, vr30, vr31, vr32, vr33, vr34, opS, fpS, okP, pack, nAl, allocA, shId, leaves, fillA, fillR, splice, Nat.reduceLT, Nat.reduceEqDiff, Nat.reduceLeDiff, Nat.reduceAdd, Nat.reduceSub, Nat.reduceMul, Int.reduceBEq, Int.reduceBNe, Int.reduceLT, Int.reduceLE, Int.reduceEq, reduceIte, reduceCtorEq, da, int, boolA, cl, ca, c1, ow, n_take3', k70, h1, h2, lenY, e1, e2, e3, e4, e5, e6]
              refine key hf _ ?_ ?_ ?_ ?_ ?_ <;> (try simp only [↓vp, vq0, vq1, vq2, vq3, vr0, vr1, vr2, vr3, vr4, vr5, vr6, vr7, vr8, vr9, vr10, vr11, vr12, vr13, vr14, vr15, vr16, vr17, vr18, vr19, vr20, vr21, vr22, vr23, vr24, vr25, vr26, vr27, vr28, vr29, vr30, vr31, vr32, vr33, vr34, opS, fpS, okP, pack, nAl, allocA, shId, leaves, fillA, fillR, splice, Nat.reduceLT, Nat.reduceEqDiff, Nat.reduceLeDiff, Nat.reduceAdd, Nat.reduceSub, Nat.reduceMul, Int.reduceBEq, Int.reduceBNe, Int.reduceLT, Int.reduceLE, Int.reduceEq, reduceIte, reduceCtorEq, da, int, boolA]) <;> rfl
          | false =>
            have hf : formM depth p n = ksM p none (keysM n) := by unfold formM; simp only [e1, e2, e3, e4, e5]; simp
            simp only [↓vp, vq0, vq1, vq2, vq3, vr0, vr1, vr2, vr3, vr4, vr5, vr6, vr7, vr8, vr9, vr10, vr11, vr12, vr13, vr14, vr15, vr16, vr17, vr18, vr19, vr20, vr21, vr22, vr23, vr24, vr25, vr26, vr27, vr28, vr29, vr30, vr31, vr32, vr33, vr34, opS, fpS, okP, pack, nAl, allocA, shId, leaves, fillA, fillR, splice, Nat.reduceLT, Nat.reduceEqDiff, Nat.reduceLeDiff, Nat.reduceAdd, Nat.reduceSub, Nat.reduceMul, Int.reduceBEq, Int.reduceBNe, Int.reduceLT, Int.reduceLE, Int.reduceEq, reduceIte, reduceCtorEq, da, int, boolA, cl, ca, c1, ow, n_take3', k70, h1, h2, lenY, e1, e2, e3, e4, e5]
            refine key hf _ ?_ ?_ ?_ ?_ ?_ <;> (try simp only [↓vp, vq0, vq1, vq2, vq3, vr0, vr1, vr2, vr3, vr4, vr5, vr6, vr7, vr8, vr9, vr10, vr11, vr12, vr13, vr14, vr15, vr16, vr17, vr18, vr19, vr20, vr21, vr22, vr23, vr24, vr25, vr26, vr27, vr28, vr29, vr30, vr31, vr32, vr33, vr34, opS, fpS, okP, pack, nAl, allocA, shId, leaves, fillA, fillR, splice, Nat.reduceLT, Nat.reduceEqDiff, Nat.reduceLeDiff, Nat.reduceAdd, Nat.reduceSub, Nat.reduceMul, Int.reduceBEq, Int.reduceBNe, Int.reduceLT, Int.reduceLE, Int.reduceEq, reduceIte, reduceCtorEq, da, int, boolA]) <;> rfl
        | false =>
          have hf : formM depth p n = false := by unfold formM; simp only [e1, e2, e3, e4]; simp
          simp only [↓vp, vq0, vq1, vq2, vq3, vr0, vr1, vr2, vr3, vr4, vr5, vr6, vr7, vr8, vr9, vr10, vr11, vr12, vr13, vr14, vr15, vr16, vr17, vr18, vr19, vr20, vr21, vr22, vr23, vr24, vr25, vr26, vr27, vr28, vr29, vr30, vr31, vr32, vr33, vr34, opS, fpS, okP, pack, nAl, allocA, shId, leaves, fillA, fillR, splice, Nat.reduceLT, Nat.reduceEqDiff, Nat.reduceLeDiff, Nat.reduceAdd, Nat.reduceSub, Nat.reduceMul, Int.reduceBEq, Int.reduceBNe, Int.reduceLT, Int.reduceLE, Int.reduceEq, reduceIte, reduceCtorEq, da, int, boolA, RetO_go, resT, resC, resN, retV1, retV2, retV3, retV0, Option.some.injEq, cl, ca, c1, ow, hf, e1, e2, e3, e4]
      | false =>
        cases e5 : decide ((0 : Int) < depth) with
        | true =>
          cases e6 : (depth != p.deep) with
          | true =>
            have hf : formM depth p n = false := by unfold formM; simp only [e1, e2, e3, e5, e6]; simp
            simp only [↓vp, vq0, vq1, vq2, vq3, vr0, vr1, vr2, vr3, vr4, vr5, vr6, vr7, vr8, vr9, vr10, vr11, vr12, vr13, vr14, vr15, vr16, vr17, vr18, vr19, vr20, vr21, vr22, vr23, vr24, vr25, vr26, vr27, vr28, vr29, vr30, vr31, vr32, vr33, vr34, opS, fpS, okP, pack, nAl, allocA, shId, leaves, fillA, fillR, splice, Nat.reduceLT, Nat.reduceEqDiff, Nat.reduceLeDiff, Nat.reduceAdd, Nat.reduceSub, Nat.reduceMul, Int.reduceBEq, Int.reduceBNe, Int.reduceLT, Int.reduceLE, Int.reduceEq, reduceIte, reduceCtorEq, da, int, boolA, RetO_go, resT, resC, resN, retV1, retV2, retV3, retV0, Option.some.injEq, cl, ca, c1, ow, hf, e1, e2, e3, e5, e6]
          | false =>
            have hf : formM depth p n = ksM p none (keysM n) := by unfold formM; simp only [e1, e2, e3, e5, e6]; simp
            simp only [↓vp, vq0, vq1, vq2, vq3, vr0, vr1, vr2, vr3, vr4, vr5, vr6, vr7, vr8, vr9, vr10, vr11, vr12, vr13, vr14, vr15, vr16, vr17, vr18, vr19, vr20, vr21, vr22, vr23, vr24, vr25, vr26, vr27, vr28, vr29, vr30, vr31, vr32, vr33, vr34, opS, fpS, okP, pack, nAl, allocA, shId, leaves, fillA, fillR, splice, Nat.reduceLT, Nat.reduceEqDiff, Nat.reduceLeDiff, Nat.reduceAdd, Nat.reduceSub, Nat.reduceMul, Int.reduceBEq, Int.reduceBNe, Int.reduceLT, Int.reduceLE, Int.reduceEq, reduceIte, reduceCtorEq, da, int, boolA, cl, ca, c1, ow, n_take3', k70, h1, h2, lenY, e1, e2, e3, e5, e6]
            refine key hf _ ?_ ?_ ?_ ?_ ?_ <;> (try simp only [↓vp, vq0, vq1, vq2, vq3, vr0, vr1, vr2, vr3, vr4, vr5, vr6, vr7, vr8, vr9, vr10, vr11, vr12, vr13, vr14, vr15, vr16, vr17, vr18, vr19, vr20, vr21, vr22, vr23, vr24, vr25, vr26, vr27, vr28, vr29, vr30, vr31, vr32, vr33, vr34, opS, fpS, okP, pack, nAl, allocA, shId, leaves, fillA, fillR, splice, Nat.reduceLT, Nat.reduceEqDiff, Nat.reduceLeDiff, Nat.reduceAdd, Nat.reduceSub, Nat.reduceMul, Int.reduceBEq, Int.reduceBNe, Int.reduceLT, Int.reduceLE, Int.reduceEq, reduceIte, reduceCtorEq, da, int, boolA]) <;> rfl
        | false =>
          have hf : formM depth p n = ksM p none (keysM n) := by unfold formM; simp only [e1, e2, e3, e5]; simp
          simp only [↓vp, vq0, vq1, vq2, vq3, vr0, vr1, vr2, vr3, vr4, vr5, vr6, vr7, vr8, vr9, vr10, vr11, vr12, vr13, vr14, vr15, vr16, vr17, vr18, vr19, vr20, vr21, vr22, vr23, vr24, vr25, vr26, vr27, vr28, vr29, vr30, vr31, vr32, vr33, vr34, opS, fpS, okP, pack, nAl, allocA, shId, leaves, fillA, fillR, splice, Nat.reduceLT, Nat.reduceEqDiff, Nat.reduceLeDiff, Nat.reduceAdd, Nat.reduceSub, Nat.reduceMul, Int.reduceBEq, Int.reduceBNe, Int.reduceLT, Int.reduceLE, Int.reduceEq, reduceIte, reduceCtorEq, da, int, boolA, cl, ca, c1, ow, n_take3', k70, h1, h2, lenY, e1, e2, e3, e5]
          refine key hf _ ?_ ?_ ?_ ?_ ?_ <;> (try simp only [↓vp, vq0, vq1, vq2, vq3, vr0, vr1, vr2, vr3, vr4, vr5, vr6, vr7, vr8, vr9, vr10, vr11, vr12, vr13, vr14, vr15, vr16, vr17, vr18, vr19, vr20, vr21, vr22, vr23, vr24, vr25, vr26, vr27, vr28, vr29, vr30, vr31, vr32, vr33, vr34, opS, fpS, okP, pack, nAl, allocA, shId, leaves, fillA, fillR, splice, Nat.reduceLT, Nat.reduceEqDiff, Nat.reduceLeDiff, Nat.reduceAdd, Nat.reduceSub, Nat.reduceMul, Int.reduceBEq, Int.reduceBNe, Int.reduceLT, Int.reduceLE, Int.reduceEq, reduceIte, reduceCtorEq, da, int, boolA]) <;> rfl
  | false =>
    cases e2 : decide ((0 : Int) < n.items.length) with
    | true =>
      have hf : formM depth p n = false := by unfold formM; simp only [e1, e2]; simp
      simp only [↓vp, vq0, vq1, vq2, vq3, vr0, vr1, vr2, vr3, vr4, vr5, vr6, vr7, vr8, vr9, vr10, vr11, vr12, vr13, vr14, vr15, vr16, vr17, vr18, vr19, vr20, vr21, vr22, vr23, vr24, vr25, vr26, vr27, vr28, vr29, vr30, vr31, vr32, vr33, vr34, opS, fpS, okP, pack, nAl, allocA, shId, leaves, fillA, fillR, splice, Nat.reduceLT, Nat.reduceEqDiff, Nat.reduceLeDiff, Nat.reduceAdd, Nat.reduceSub, Nat.reduceMul, Int.reduceBEq, Int.reduceBNe, Int.reduceLT, Int.reduceLE, Int.reduceEq, reduceIte, reduceCtorEq, da, int, boolA, RetO_go, resT, resC, resN, retV1, retV2, retV3, retV0, Option.some.injEq, cl, ca, c1, ow, hf, e1, e2]
    | false =>
      cases e3 : decide ((n.kids.length : Int) < 2) with
      | true =>
        have hf : formM depth p n = false := by unfold formM; simp only [e1, e2, e3]; simp
        simp only [↓vp, vq0, vq1, vq2, vq3, vr0, vr1, vr2, vr3, vr4, vr5, vr6, vr7, vr8, vr9, vr10, vr11, vr12, vr13, vr14, vr15, vr16, vr17, vr18, vr19, vr20, vr21, vr22, vr23, vr24, vr25, vr26, vr27, vr28, vr29, vr30, vr31, vr32, vr33, vr34, opS, fpS, okP, pack, nAl, allocA, shId, leaves, fillA, fillR, splice, Nat.reduceLT, Nat.reduceEqDiff, Nat.reduceLeDiff, Nat.reduceAdd, Nat.reduceSub, Nat.reduceMul, Int.reduceBEq, Int.reduceBNe, Int.reduceLT, Int.reduceLE, Int.reduceEq, reduceIte, reduceCtorEq, da, int, boolA, RetO_go, resT, resC, resN, retV1, retV2, retV3, retV0, Option.some.injEq, cl, ca, c1, ow, hf, e1, e2, e3]
      | false =>
        have hf : formM depth p n = ksM p none (keysM n) := by unfold formM; simp only [e1, e2, e3]; simp
        simp only [↓vp, vq0, vq1, vq2, vq3, vr0, vr1, vr2, vr3, vr4, vr5, vr6, vr7, vr8, vr9, vr10, vr11, vr12, vr13, vr14, vr15, vr16, vr17, vr18, vr19, vr20, vr21, vr22, vr23, vr24, vr25, vr26, vr27, vr28, vr29, vr30, vr31, vr32, vr33, vr34, opS, fpS, okP, pack, nAl, allocA, shId, leaves, fillA, fillR, splice, Nat.reduceLT, Nat.reduceEqDiff, Nat.reduceLeDiff, Nat.reduceAdd, Nat.reduceSub, Nat.reduceMul, Int.reduceBEq, Int.reduceBNe, Int.reduceLT, Int.reduceLE, Int.reduceEq, reduceIte, reduceCtorEq, da, int, boolA, cl, ca, c1, ow, n_take3', k70, h1, h2, lenY, e1, e2, e3]
        refine key hf _ ?_ ?_ ?_ ?_ ?_ <;> (try simp only [↓vp, vq0, vq1, vq2, vq3, vr0, vr1, vr2, vr3, vr4, vr5, vr6, vr7, vr8, vr9, vr10, vr11, vr12, vr13, vr14, vr15, vr16, vr17, vr18, vr19, vr20, vr21, vr22, vr23, vr24, vr25, vr26, vr27, vr28, vr29, vr30, vr31, vr32, vr33, vr34, opS, fpS, okP, pack, nAl, allocA, shId, leaves, fillA, fillR, splice, Nat.reduceLT, Nat.reduceEqDiff, Nat.reduceLeDiff, Nat.reduceAdd, Nat.reduceSub, Nat.reduceMul, Int.reduceBEq, Int.reduceBNe, Int.reduceLT, Int.reduceLE, Int.reduceEq, reduceIte, reduceCtorEq, da, int, boolA]) <;> rfl
end Go.VI

/- VI, part SQ: All: the walker's node. -/
set_option linter.unusedVariables false
set_option linter.unusedSimpArgs false
set_option maxRecDepth 100000
namespace Go.VI
attribute [local congr] AW_congr OW_congr DW_congr NW_congr VW_congr GW_congr PW_congr KW_congr ite_congr' GV_congr CV_congr

/-! ### calls that share the heap: what is left behind is told by a property -/
def RetE (rs : List ARes) (R : AV) (P : Heap → Prop) (x : AExit) (e : Env) (H : Heap) : Prop := leaves x = true ∧ resultsA H e rs = some R ∧ P H
theorem call_oE {ft : FT} {k : FuncId} {first caps args : List AV} {H : Heap} {n : Nat} {rs : List ARes} {body : ACode} {R : AV} {P : Heap → Prop} (hk : ft k = some (.go false n rs body)) (hl : (first ++ args ++ caps).length ≤ n)
    (h : AW ft body (mkE n (ofL (first ++ args ++ caps))) (hx H []) (RetE rs R P)) : ∃ H1, callL ft (.fn (.func k) first caps) args H = some (R, H1) ∧ P H1 := by
  obtain ⟨x, e', Hc, h1, hx_, h2, h3⟩ := h
  refine ⟨Hc, ?_, h3⟩
  refine call_o hk hl ⟨x, e', Hc, h1, hx_, h2, rfl⟩
theorem RetE_go {rs : List ARes} {R : AV} {P : Heap → Prop} {x : AExit} {n : Nat} {f : Nat → AV} {H : Heap} : RetE rs R P x (mkE n f) H ↔ leaves x = true ∧ (rs.mapM (resOf H (mkE n f))).map retV = some R ∧ P H := Iff.rfl
theorem KW_ex {f : AV} {args : List AV} {K : Heap} {Q : AV → Heap → Prop} {R : AV} {P : Heap → Prop} (h : ∃ H', callL ft f args K = some (R, H') ∧ P H') (hq : ∀ H', P H' → Q R H') : KW ft f args K Q := by
  obtain ⟨H', h1, h2⟩ := h
  exact ⟨R, H', h1, hq H' h2⟩

theorem hx_hx (H : Heap) (L M : List Blk) : hx (hx H L) M = hx H (L ++ M) := by simp [hx]
theorem look_go {nid : Nat} {e : Env} {H : Heap} {kd : Option IntKind} {z : AV} {m k : Operand} : opS nid e H (.look kd z m k false) = match ev e m with
    | .mp id => match H.get id with
      | some (.mpb kd' es) => if kd' = kd ∧ keyOk kd (ev e k) = true then some ((lookE (ev e k) es).getD z, H) else none
      | _ => none
    | _ => none := rfl

theorem mput_go {nid : Nat} {e : Env} {H : Heap} {kd : Option IntKind} {m k v : Operand} : opS nid e H (.mput kd m k v) = match ev e m with
    | .mp id => match H.get id with
      | some (.mpb kd' es) => if kd' = kd ∧ keyOk kd (ev e k) = true then some (.bad, H.set id (.mpb kd (putE (ev e k) (ev e v) es))) else none
      | _ => none
    | _ => none := rfl

theorem clI (k : IntKind) (n : Int) : closedL [.sc (.int k n)] = true := rfl

/-! ### a walker -/
structure WM where
  items : List ItemM
  refs : List Int
  depth : Int
def intC (r : Int) : List AV := [int r]
def encN (l : List Int) : AV := .lst (l.map intC)
def seenE (l : List Int) : List (AV × AV) := l.map fun r => (int r, int 1)
theorem look_seen (r : Int) : ∀ l : List Int, lookE (int r) (seenE l) = if l.contains r then some (int 1) else none
  | [] => rfl
  | x :: l => by
    show (if keyEq (int r) (int x) then some (int 1) else lookE (int r) (seenE l)) = _
    have : keyEq (int r) (int x) = (r == x) := rfl
    rw [this, look_seen r l, List.contains_cons]
    cases h : (r == x) <;> simp
theorem put_seen (r : Int) : ∀ l : List Int, l.contains r = false → putE (int r) (int 1) (seenE l) = seenE (l ++ [r])
  | [], _ => rfl
  | x :: l, h => by
    rw [List.contains_cons, Bool.or_eq_false_iff] at h
    show (if keyEq (int r) (int x) then (int r, int 1) :: seenE l else (int x, int 1) :: putE (int r) (int 1) (seenE l)) = _
    have : keyEq (int r) (int x) = (r == x) := rfl
    rw [this, h.1, put_seen r l h.2]
    rfl
structure WS (H : Heap) (l : List NamedM) (wid mid : Nat) (w : WM) : Prop where
  ex : ∃ sI sR, H.get wid = some (.box false [srcF l, sI, sR, int w.depth, .mp mid]) ∧ Rep H 4 sI (w.items.map itemC) ∧ Rep H 1 sR (w.refs.map intC) ∧ H.get mid = some (.mpb (some .i64) (seenE w.refs))
/-- All boxes but one stay. -/
def Keep (wid : Nat) (H H' : Heap) : Prop := H.next ≤ H'.next ∧ ∀ id fz c, id ≠ wid → H.get id = some (.box fz c) → H'.get id = some (.box fz c)
theorem Keep.rfl' {wid : Nat} {H : Heap} : Keep wid H H := ⟨Nat.le_refl _, fun _ _ _ _ h => h⟩
theorem Keep.trans {wid : Nat} {H H' H'' : Heap} (h : Keep wid H H') (h' : Keep wid H' H'') : Keep wid H H'' := ⟨Nat.le_trans h.1 h'.1, fun id fz c hi hg => h'.2 id fz c hi (h.2 id fz c hi hg)⟩
theorem Keep.hx {wid : Nat} {H : Heap} (L : List Blk) : Keep wid H (hx H L) := ⟨by rw [hx_next]; omega, fun _ _ _ _ h => get_old h L⟩
theorem WS.hx {H : Heap} {l : List NamedM} {wid mid : Nat} {w : WM} (h : WS H l wid mid w) (L : List Blk) : WS (hx H L) l wid mid w := by
  obtain ⟨sI, sR, h1, h2, h3, h4⟩ := h.ex
  exact ⟨sI, sR, get_old h1 L, h2.mono fun id h => get_old h L, h3.mono fun id h => get_old h L, get_old h4 L⟩
def noNode : NodeM := ⟨false, [], []⟩
def nodeW (l : List NamedM) (p : PlaceM) (w : WM) : NodeM × Int × WM :=
  if 12 < p.deep then (noNode, 130, w)
  else if (nodeM l p.ref).2 ≠ 0 then (noNode, (nodeM l p.ref).2, w)
  else if w.refs.contains p.ref || !formM w.depth p (nodeM l p.ref).1 then (noNode, 131, w)
  else ((nodeM l p.ref).1, 0, ⟨if (nodeM l p.ref).1.leaf then w.items ++ (nodeM l p.ref).1.items else w.items, w.refs ++ [p.ref], if (nodeM l p.ref).1.leaf then p.deep else w.depth⟩)
/-- The node that is told: none where an error is. -/
def nodeR (n : NodeM) (e : Int) : List AV := if e = 0 then nodeC n else [boolA false, .sc (.slice none 0 0), .sc (.slice none 0 0)]
theorem s55 {l : List NamedM} (hl : okL l) (ht : tinyL l) {p : PlaceM} {a b : AV} (ha : NB a p.lk) (hb : NB b p.hk) (hp : okP_ p) {H : Heap} {wid mid : Nat} {w : WM} (hw : WS H l wid mid w) (hr : w.refs.length ≤ 1000) (hi : w.items.length ≤ 1000000) :
    ∃ H', callL ft (.fn (.func 55) [] []) [.ptr wid 0 0, .agg (placeC p a b)] H = some (.tup [.agg (nodeR (nodeW l p w).1 (nodeW l p w).2.1), int (nodeW l p w).2.1], H') ∧ WS H' l wid mid (nodeW l p w).2.2 ∧ Keep wid H H' := by
  refine call_oE rfl (by simp) ?_
  obtain ⟨sI, sR, g1, g2, g3, g4⟩ := hw.ex
  have cl : (placeC p a b).length = 6 := rfl
  have c6 : (placeC p a b).take 6 = placeC p a b := rfl
  have ca : oneAll (placeC p a b) = true := by
    show (true && (true && (true && (a.one && (true && (b.one && true)))))) = true
    rw [ha.one, hb.one]; rfl
  have c0 : (placeC p a b).take 1 = [int p.ref] := rfl
  have c1 : ((placeC p a b).drop 1).take 1 = [int p.deep] := rfl
  have ow := get_old g1
  have om := get_old g4
  have lw := Heap.get_lt g1
  have nw0 : (wid = H.next) = False := eq_false (by omega)
  have nwk : ∀ k, (wid = H.next + k) = False := fun k => eq_false (by omega)
  unfold c55 r55
  by_cases e1 : 12 < p.deep
  · have hf : nodeW l p w = (noNode, 130, w) := by unfold nodeW; rw [if_pos e1]
    rw [hf]
    simp only [↓vp, vq0, vq1, vq2, vq3, vr0, vr1, vr2, vr3, vr4, vr5, vr6, vr7, vr8, vr9, vr10, vr11, vr12, vr13, vr14, vr15, vr16, vr17, vr18, vr19, vr20, vr21, vr22, vr23, vr24, vr25, vr26, vr27, vr28, vr29, vr30, vr31, vr32, vr33, vr34, opS, fpS, okP, pack, nAl, allocA, shId, leaves, fillA, fillR, splice, Nat.reduceLT, Nat.reduceEqDiff, Nat.reduceLeDiff, Nat.reduceAdd, Nat.reduceSub, Nat.reduceMul, Int.reduceBEq, Int.reduceBNe, Int.reduceLT, Int.reduceLE, Int.reduceEq, reduceIte, reduceCtorEq, da, int, boolA, cl, c6, ca, c0, c1, e1, RetE_go, resT, resC, resN, retV2]
    exact ⟨rfl, hw.hx _, Keep.hx _⟩
  · obtain ⟨t1, t2⟩ := tiny_node ht p.ref
    have o1 := ok_node hl p.ref
    have x45 := fun K L Q => k45 hl ht (ref := p.ref) (K := K) (L := L) (Q := Q)
    have hpv : pureV ft (srcF l) [int p.ref] = true := rfl
    simp only [int] at x45 hpv
    cases e2 : ((nodeM l p.ref).2 != 0) with
    | true =>
      have e2' : (nodeM l p.ref).2 ≠ 0 := by simpa using e2
      have hf : nodeW l p w = (noNode, (nodeM l p.ref).2, w) := by unfold nodeW; rw [if_neg e1, if_pos e2']
      rw [hf]
      generalize nodeM l p.ref = nn at *
      have hR : nodeR noNode nn.2 = [boolA false, .sc (.slice none 0 0), .sc (.slice none 0 0)] := by unfold nodeR; rw [if_neg e2']
      simp only [↓vp, vq0, vq1, vq2, vq3, vr0, vr1, vr2, vr3, vr4, vr5, vr6, vr7, vr8, vr9, vr10, vr11, vr12, vr13, vr14, vr15, vr16, vr17, vr18, vr19, vr20, vr21, vr22, vr23, vr24, vr25, vr26, vr27, vr28, vr29, vr30, vr31, vr32, vr33, vr34, opS, fpS, okP, pack, nAl, allocA, shId, leaves, fillA, fillR, splice, Nat.reduceLT, Nat.reduceEqDiff, Nat.reduceLeDiff, Nat.reduceAdd, Nat.reduceSub, Nat.reduceMul, Int.reduceBEq, Int.reduceBNe, Int.reduceLT, Int.reduceLE, Int.reduceEq, reduceIte, reduceCtorEq, da, int, boolA, cl, c6, ca, c0, c1, e1, ow, x45, hpv, e2, hR, RetE_go, resT, resC, resN, retV2, nw0, nwk]
      exact ⟨hw.hx _, Keep.hx _⟩
    | false =>
      have e2' : ¬ (nodeM l p.ref).2 ≠ 0 := by simpa using e2
      have x68 : ∀ (L : List Blk) (Q : AV → Heap → Prop), KW ft (.fn (.func 68) [] []) [.ptr wid 0 0, .agg (placeC p a b), .agg (nodeC (nodeM l p.ref).1)] (hx H L) Q ↔ Q (boolA (formM w.depth p (nodeM l p.ref).1)) (hx H (L ++ [.box false (placeC p a b), .box false (nodeC (nodeM l p.ref).1)])) :=
        fun L Q => by
          have := s68 ha hb hp o1 t1 t2 (get_old g1 L)
          rw [hx_hx] at this
          exact KW_of this
      have lk := look_seen p.ref w.refs
      cases e3 : w.refs.contains p.ref with
      | true =>
        have hf : nodeW l p w = (noNode, 131, w) := by unfold nodeW; rw [if_neg e1, if_neg e2', e3]; rfl
        rw [hf]
        have hR : nodeR noNode 131 = [boolA false, .sc (.slice none 0 0), .sc (.slice none 0 0)] := rfl
        rw [e3] at lk
        generalize nodeM l p.ref = nn at *
        simp only [int] at lk
        simp only [↓vp, vq0, vq1, vq2, vq3, vr0, vr1, vr2, vr3, vr4, vr5, vr6, vr7, vr8, vr9, vr10, vr11, vr12, vr13, vr14, vr15, vr16, vr17, vr18, vr19, vr20, vr21, vr22, vr23, vr24, vr25, vr26, vr27, vr28, vr29, vr30, vr31, vr32, vr33, vr34, opS, fpS, okP, pack, nAl, allocA, shId, leaves, fillA, fillR, splice, Nat.reduceLT, Nat.reduceEqDiff, Nat.reduceLeDiff, Nat.reduceAdd, Nat.reduceSub, Nat.reduceMul, Int.reduceBEq, Int.reduceBNe, Int.reduceLT, Int.reduceLE, Int.reduceEq, reduceIte, reduceCtorEq, da, int, boolA, cl, c6, ca, c0, c1, e1, ow, om, x45, hpv, e2, hR, RetE_go, resT, resC, resN, retV2, nw0, nwk, look_go, lk, keyOk, Option.getD_some]
        exact ⟨hw.hx _, Keep.hx _⟩
      | false =>
        rw [e3] at lk
        cases e4 : formM w.depth p (nodeM l p.ref).1 with
        | false =>
          have hf : nodeW l p w = (noNode, 131, w) := by unfold nodeW; rw [if_neg e1, if_neg e2', e3, e4]; rfl
          rw [hf]
          have hR : nodeR noNode 131 = [boolA false, .sc (.slice none 0 0), .sc (.slice none 0 0)] := rfl
          rw [e4] at x68
          generalize nodeM l p.ref = nn at *
          simp only [int, boolA] at lk x68
          simp only [↓vp, vq0, vq1, vq2, vq3, vr0, vr1, vr2, vr3, vr4, vr5, vr6, vr7, vr8, vr9, vr10, vr11, vr12, vr13, vr14, vr15, vr16, vr17, vr18, vr19, vr20, vr21, vr22, vr23, vr24, vr25, vr26, vr27, vr28, vr29, vr30, vr31, vr32, vr33, vr34, opS, fpS, okP, pack, nAl, allocA, shId, leaves, fillA, fillR, splice, Nat.reduceLT, Nat.reduceEqDiff, Nat.reduceLeDiff, Nat.reduceAdd, Nat.reduceSub, Nat.reduceMul, Int.reduceBEq, Int.reduceBNe, Int.reduceLT, Int.reduceLE, Int.reduceEq, reduceIte, reduceCtorEq, da, int, boolA, cl, c6, ca, c0, c1, e1, ow, om, x45, x68, hpv, e2, hR, RetE_go, resT, resC, resN, retV2, nw0, nwk, look_go, lk, keyOk, Option.getD_none]
          exact ⟨hw.hx _, Keep.hx _⟩
        | true =>
          have hf : nodeW l p w = ((nodeM l p.ref).1, 0, ⟨if (nodeM l p.ref).1.leaf then w.items ++ (nodeM l p.ref).1.items else w.items, w.refs ++ [p.ref], if (nodeM l p.ref).1.leaf then p.deep else w.depth⟩) := by unfold nodeW; rw [if_neg e1, if_neg e2', e3, e4]; rfl
          rw [hf]
          have hR : nodeR (nodeM l p.ref).1 0 = nodeC (nodeM l p.ref).1 := rfl
          rw [e4] at x68
          have lm := Heap.get_lt g4
          have hmw : mid ≠ wid := fun e => by rw [e, g1] at g4; cases g4
          have ps := put_seen p.ref w.refs e3
          have pm := fun (L : List Blk) (b : Blk) => hx_set_old H L b mid lm
          obtain ⟨H1, hH1⟩ : ∃ H1, H1 = H.set mid (.mpb (some .i64) (seenE (w.refs ++ [p.ref]))) := ⟨_, rfl⟩
          have n1 : H1.next = H.next := by rw [hH1, Heap.next_set]
          have q1 : ∀ j b, j ≠ mid → H.get j = some b → H1.get j = some b := fun j b hj hg => by rw [hH1, Heap.get_set_ne _ hj, hg]
          have gm1 : H1.get mid = some (.mpb (some .i64) (seenE (w.refs ++ [p.ref]))) := by rw [hH1, Heap.get_set_self _ lm]
          have gw1 := q1 _ _ hmw.symm g1
          have ow1 := get_old gw1
          have rI1 : Rep H1 4 sI (w.items.map itemC) := g2.mono fun id h => q1 id _ (fun e => by rw [e, g4] at h; cases h) h
          have rR1 : Rep H1 1 sR (w.refs.map intC) := g3.mono fun id h => q1 id _ (fun e => by rw [e, g4] at h; cases h) h
          have apR := fun nid L => appA_rep (nid := nid) (bytes := 8) rR1 (xs := [intC p.ref]) (by simp) rfl (by simp only [List.length_map, List.length_singleton]; omega) L
          obtain ⟨H2, hH2⟩ : ∃ H2, H2 = kill H1 sR := ⟨_, rfl⟩
          rw [← hH2] at apR
          have n2 : H2.next = H.next := by rw [hH2, kill_next, n1]
          have gm2 : H2.get mid = some (.mpb (some .i64) (seenE (w.refs ++ [p.ref]))) := by rw [hH2]; exact kill_get rR1 gm1 fun r h => by cases h
          have gw2 : H2.get wid = some (.box false [srcF l, sI, sR, int w.depth, .mp mid]) := by rw [hH2]; exact kill_get rR1 gw1 fun r h => by cases h
          have ow2 := get_old gw2
          have lw2 := Heap.get_lt gw2
          have rI2 : Rep H2 4 sI (w.items.map itemC) := rI1.mono fun id h => by rw [hH2]; exact kill_get rR1 h fun r h => by cases h
          have pw := fun (L : List Blk) (b : Blk) => hx_set_old H2 L b wid lw2
          obtain ⟨H3, hH3⟩ : ∃ H3, H3 = H2.set wid (.box false [srcF l, sI, .sl (H.next + 6) 0 (w.refs.length + 1), int w.depth, .mp mid]) := ⟨_, rfl⟩
          have n3 : H3.next = H.next := by rw [hH3, Heap.next_set, n2]
          have gw3 : H3.get wid = some (.box false [srcF l, sI, .sl (H.next + 6) 0 (w.refs.length + 1), int w.depth, .mp mid]) := by rw [hH3, Heap.get_set_self _ lw2]
          have ow3 := get_old gw3
          have gm3 : H3.get mid = some (.mpb (some .i64) (seenE (w.refs ++ [p.ref]))) := by rw [hH3, Heap.get_set_ne _ hmw, gm2]
          have rI3 : Rep H3 4 sI (w.items.map itemC) := rI2.mono fun id h => by rw [hH3, Heap.get_set_ne _ (fun e => by rw [e, gw2] at h; cases h), h]
          have K3 : Keep wid H H3 := ⟨by omega, fun id fz c hid hg => by
            rw [hH3, Heap.get_set_ne _ hid, hH2]
            exact kill_get rR1 (q1 _ _ (fun e => by rw [e, g4] at hg; cases hg) hg) fun r h => by cases h⟩
          have pm1 : ∀ L, (hx H L).set mid (.mpb (some .i64) (seenE (w.refs ++ [p.ref]))) = hx H1 L := fun L => by rw [hH1, pm]
          have pw1 : ∀ L, (hx H2 L).set wid (.box false [srcF l, sI, .sl (H.next + 6) 0 (w.refs.length + 1), int w.depth, .mp mid]) = hx H3 L := fun L => by rw [hH3, pw]
          clear pm pw hH1 hH2 hH3 ow2
          have ow2 := get_old gw2
          generalize nodeM l p.ref = nn at *
          obtain ⟨n, er⟩ := nn
          simp only [int, boolA] at lk x68 ps pw1 ow ow1 ow2 ow3 pm1
          simp only [intC, int] at apR
          cases e5 : n.leaf with
          | false =>
            simp only [↓vp, vq0, vq1, vq2, vq3, vr0, vr1, vr2, vr3, vr4, vr5, vr6, vr7, vr8, vr9, vr10, vr11, vr12, vr13, vr14, vr15, vr16, vr17, vr18, vr19, vr20, vr21, vr22, vr23, vr24, vr25, vr26, vr27, vr28, vr29, vr30, vr31, vr32, vr33, vr34, opS, fpS, okP, pack, nAl, allocA, shId, leaves, fillA, fillR, splice, Nat.reduceLT, Nat.reduceEqDiff, Nat.reduceLeDiff, Nat.reduceAdd, Nat.reduceSub, Nat.reduceMul, Int.reduceBEq, Int.reduceBNe, Int.reduceLT, Int.reduceLE, Int.reduceEq, reduceIte, reduceCtorEq, da, int, boolA, cl, c6, ca, c0, c1, e1, ow, om, x45, x68, hpv, e2, hR, RetE_go, resT, resC, resN, retV2, nw0, nwk, look_go, lk, keyOk, Option.getD_none, mput_go, ps, pm1, ow1, n1, n2, n3, apR, pw1, ow2, ow3, e5, clI]
            exact ⟨⟨sI, .sl (H.next + 6) 0 (w.refs.length + 1), ow3 _, rI3.mono fun id h => get_old h _, .inr ⟨H.next + 6, by simp, by simp only [↓vp, vq0, vq1, vq2, vq3, vr0, vr1, vr2, vr3, vr4, vr5, vr6, vr7, vr8, vr9, vr10, vr11, vr12, vr13, vr14, vr15, vr16, vr17, vr18, vr19, vr20, vr21, vr22, vr23, vr24, vr25, vr26, vr27, vr28, vr29, vr30, vr31, vr32, vr33, vr34, opS, fpS, okP, pack, nAl, allocA, shId, leaves, fillA, fillR, splice, Nat.reduceLT, Nat.reduceEqDiff, Nat.reduceLeDiff, Nat.reduceAdd, Nat.reduceSub, Nat.reduceMul, Int.reduceBEq, Int.reduceBNe, Int.reduceLT, Int.reduceLE, Int.reduceEq, reduceIte, reduceCtorEq, n3]; simp [intC, int]⟩, get_old gm3 _⟩, K3.trans (Keep.hx _)⟩
          | true =>
            have hsI : shId sI = [] ∨ ∃ id, shId sI = [id] ∧ id < H.next := by
              rcases g2 with ⟨rfl, _⟩ | ⟨id, rfl, h⟩
              · exact .inl rfl
              · exact .inr ⟨id, rfl, Heap.get_lt h⟩
            have cpt : compat (some (true, (H.next + 7) :: (shId sI ++ []))) (some (false, [H.next])) = true := by
              have q0 : ¬ (7 : Nat) = 0 := by decide
              rcases hsI with h | ⟨id, h, hlt⟩
              · rw [h]; simp [compat]
              · rw [h]
                have : id ≠ H.next := by omega
                simp [compat, this]
            obtain ⟨S', H4, X, apI, n4, gw4, gm4, rI4, K4⟩ : ∃ S' H4 X, (∀ L : List Blk, L[7]? = some .dead → appA (H.next + 7) (hx H3 L) 4 64 sI (n.items.map itemC) = some (S', hx H4 (L.set 7 X))) ∧ H4.next = H.next ∧
                H4.get wid = some (.box false [srcF l, sI, .sl (H.next + 6) 0 (w.refs.length + 1), int w.depth, .mp mid]) ∧ H4.get mid = some (.mpb (some .i64) (seenE (w.refs ++ [p.ref]))) ∧
                (S' = .sc (.slice none 0 0) ∧ w.items ++ n.items = [] ∨ S' = .sl (H.next + 7) 0 (w.items.length + n.items.length) ∧ X = .row false 4 (w.items.map itemC ++ n.items.map itemC)) ∧ Keep wid H H4 := by
              have pt : ∀ (K : Heap) (L : List Blk) (B : Blk), K.next = H.next → L[7]? = some .dead → (hx K L).put (H.next + 7) B = hx K (L.set 7 B) := fun K L B hk hl => by
                rw [hx_putN hk, if_pos (List.getElem?_eq_some_iff.1 hl).1]
              have t1' : n.items.length ≤ 1000 := t1
              have as : allSz 4 (n.items.map itemC) = true := by simp [allSz, len_itemC]
              rcases rI3 with ⟨rfl, hi0⟩ | ⟨id, rfl, hi0⟩
              · have hi0 : w.items = [] := by simpa using hi0
                by_cases hn : n.items = []
                · refine ⟨_, H3, .dead, fun L hl => ?_, n3, gw3, gm3, .inl ⟨rfl, by rw [hi0, hn]; rfl⟩, K3⟩
                  rw [appA_nil, hn, if_pos (by rfl)]
                  obtain ⟨h1, h2⟩ := List.getElem?_eq_some_iff.1 hl
                  rw [← h2, List.set_getElem_self]
                · refine ⟨_, H3, _, fun L hl => ?_, n3, gw3, gm3, .inr ⟨rfl, rfl⟩, K3⟩
                  rw [appA_nil, if_neg (by simpa using hn), if_pos ⟨by simp only [List.length_map]; omega, as⟩, pt _ _ _ n3 hl, hi0]
                  simp
              · have lid := Heap.get_lt hi0
                have hne : id ≠ wid := fun e => by rw [e, gw3] at hi0; cases hi0
                have hnm : id ≠ mid := fun e => by rw [e, gm3] at hi0; cases hi0
                refine ⟨_, H3.set id .dead, _, fun L hl => ?_, by rw [Heap.next_set, n3], by rw [Heap.get_set_ne _ hne.symm, gw3], by rw [Heap.get_set_ne _ hnm.symm, gm3], .inr ⟨rfl, rfl⟩,
                  K3.trans ⟨by rw [Heap.next_set]; omega, fun j fz c _ hg => by rw [Heap.get_set_ne _ (fun e => by rw [e, hi0] at hg; cases hg), hg]⟩⟩
                rw [appA_sl, hx_get_old _ _ _ lid, hi0]
                simp only
                rw [if_pos ⟨by trivial, by simp, by simp only [List.length_map]; omega, as⟩, hx_set_old _ _ _ _ lid, pt _ _ _ (by rw [Heap.next_set, n3]) hl, List.drop_zero, List.take_of_length_le (Nat.le_refl _)]
                simp
            have lw4 := Heap.get_lt gw4
            obtain ⟨H5, hH5⟩ : ∃ H5, H5 = H4.set wid (.box false [srcF l, S', .sl (H.next + 6) 0 (w.refs.length + 1), int w.depth, .mp mid]) := ⟨_, rfl⟩
            have n5 : H5.next = H.next := by rw [hH5, Heap.next_set, n4]
            have gw5 : H5.get wid = some (.box false [srcF l, S', .sl (H.next + 6) 0 (w.refs.length + 1), int w.depth, .mp mid]) := by rw [hH5, Heap.get_set_self _ lw4]
            have lw5 := Heap.get_lt gw5
            obtain ⟨H6, hH6⟩ : ∃ H6, H6 = H5.set wid (.box false [srcF l, S', .sl (H.next + 6) 0 (w.refs.length + 1), int p.deep, .mp mid]) := ⟨_, rfl⟩
            have n6 : H6.next = H.next := by rw [hH6, Heap.next_set, n5]
            have gw6 : H6.get wid = some (.box false [srcF l, S', .sl (H.next + 6) 0 (w.refs.length + 1), int p.deep, .mp mid]) := by rw [hH6, Heap.get_set_self _ lw5]
            have pw5 : ∀ L, (hx H4 L).set wid (.box false [srcF l, S', .sl (H.next + 6) 0 (w.refs.length + 1), int w.depth, .mp mid]) = hx H5 L := fun L => by rw [hH5, hx_set_old _ _ _ _ lw4]
            have pw6 : ∀ L, (hx H5 L).set wid (.box false [srcF l, S', .sl (H.next + 6) 0 (w.refs.length + 1), int p.deep, .mp mid]) = hx H6 L := fun L => by rw [hH6, hx_set_old _ _ _ _ lw5]
            have ow4 := get_old gw4
            have ow5 := get_old gw5
            have o1' : S'.one = true := by rcases rI4 with ⟨h, _⟩ | ⟨h, _⟩ <;> rw [h] <;> rfl
            have oc' : S'.cells = [S'] := by rcases rI4 with ⟨h, _⟩ | ⟨h, _⟩ <;> rw [h] <;> rfl
            have rI : ∀ (l : List ItemM) (H : Heap), rowsOf H (encI l) = some (l.map itemC) := fun _ _ => rfl
            have sS : sids [S'] = some [] ∨ sids [S'] = some [H.next + 7] := by rcases rI4 with ⟨h, _⟩ | ⟨h, _⟩ <;> rw [h] <;> simp only [↓vp, vq0, vq1, vq2, vq3, vr0, vr1, vr2, vr3, vr4, vr5, vr6, vr7, vr8, vr9, vr10, vr11, vr12, vr13, vr14, vr15, vr16, vr17, vr18, vr19, vr20, vr21, vr22, vr23, vr24, vr25, vr26, vr27, vr28, vr29, vr30, vr31, vr32, vr33, vr34, opS, fpS, okP, pack, nAl, allocA, shId, leaves, fillA, fillR, splice, Nat.reduceLT, Nat.reduceEqDiff, Nat.reduceLeDiff, Nat.reduceAdd, Nat.reduceSub, Nat.reduceMul, Int.reduceBEq, Int.reduceBNe, Int.reduceLT, Int.reduceLE, Int.reduceEq, reduceIte, reduceCtorEq] <;> simp
            obtain ⟨tS, sS, hS⟩ : ∃ tS, sids [S'] = some tS ∧ compat (some (false, [H.next])) (some (true, wid :: tS)) = true := by
              rcases sS with h | h
              · exact ⟨_, h, by simp [compat]; omega⟩
              · exact ⟨_, h, by simp [compat]; omega⟩
            have hg7 : ∀ (a b c d e f g : Blk), [a, b, c, d, e, f, g, .dead][7]? = some .dead := fun _ _ _ _ _ _ _ => rfl
            simp only [int] at pw5 pw6 ow4 ow5
            clear hi rI1 rI2 rI3 g2 hw
            simp only [↓vp, vq0, vq1, vq2, vq3, vr0, vr1, vr2, vr3, vr4, vr5, vr6, vr7, vr8, vr9, vr10, vr11, vr12, vr13, vr14, vr15, vr16, vr17, vr18, vr19, vr20, vr21, vr22, vr23, vr24, vr25, vr26, vr27, vr28, vr29, vr30, vr31, vr32, vr33, vr34, opS, fpS, okP, pack, nAl, allocA, shId, leaves, fillA, fillR, splice, Nat.reduceLT, Nat.reduceEqDiff, Nat.reduceLeDiff, Nat.reduceAdd, Nat.reduceSub, Nat.reduceMul, Int.reduceBEq, Int.reduceBNe, Int.reduceLT, Int.reduceLE, Int.reduceEq, reduceIte, reduceCtorEq, da, int, boolA, cl, c6, ca, c0, c1, e1, ow, om, x45, x68, hpv, e2, hR, RetE_go, resT, resC, resN, retV2, nw0, nwk, look_go, lk, keyOk, Option.getD_none, mput_go, ps, pm1, ow1, n1, n2, n3, clI, apR, pw1, ow2, ow3, e5, rI, apI, n4, n5, n6, ow4, ow5, pw5, pw6, o1', oc', sS, clI]
            have gm6 : H6.get mid = some (.mpb (some .i64) (seenE (w.refs ++ [p.ref]))) := by rw [hH6, Heap.get_set_ne _ hmw, hH5, Heap.get_set_ne _ hmw, gm4]
            have K6 : Keep wid H H6 := K4.trans ⟨by omega, fun id fz c hid hg => by rw [hH6, Heap.get_set_ne _ hid, hH5, Heap.get_set_ne _ hid, hg]⟩
            have hN : ∀ L, (hx H6 L).get (H.next + 7) = L[7]? := fun L => hx_getN n6
            have hN6 : ∀ L, (hx H6 L).get (H.next + 6) = L[6]? := fun L => hx_getN n6
            refine ⟨?_, ⟨S', .sl (H.next + 6) 0 (w.refs.length + 1), get_old gw6 _, ?_, .inr ⟨H.next + 6, by simp, by rw [hN6]; simp [intC, int]⟩, get_old gm6 _⟩, K6.trans (Keep.hx _)⟩
            · rw [Bool.and_eq_true]
              exact ⟨cpt, hS⟩
            · rcases rI4 with ⟨h, h'⟩ | ⟨h, h'⟩
              · exact .inl ⟨h, by rw [h']; rfl⟩
              · refine .inr ⟨H.next + 7, by rw [h]; simp, ?_⟩
                rw [hN, h', List.map_append]
                rfl
end Go.VI

/- VI, part SR: All. -/
set_option linter.unusedVariables false
set_option linter.unusedSimpArgs false
set_option maxRecDepth 100000
namespace Go.VI
attribute [local congr] AW_congr OW_congr DW_congr NW_congr VW_congr GW_congr PW_congr KW_congr ite_congr' GV_congr CV_congr

/-- Through the kids, till an error is told. -/
def goM (v : PlaceM → WM → Int × WM) (p : PlaceM) (n : NodeM) : List Nat → WM → Int × WM
  | [], w => (0, w)
  | k :: ks, w => if (v (kidM p n k) w).1 ≠ 0 then v (kidM p n k) w else goM v p n ks (v (kidM p n k) w).2
/-- A place, and all below it. -/
def visitM (l : List NamedM) : Nat → PlaceM → WM → Int × WM
  | 0, _, w => (130, w)
  | d + 1, p, w => if (nodeW l p w).2.1 ≠ 0 then ((nodeW l p w).2.1, (nodeW l p w).2.2) else goM (visitM l d) p (nodeW l p w).1 (List.range (nodeW l p w).1.kids.length) (nodeW l p w).2.2
/-- What a walker holds is bounded. -/
structure okW (l : List NamedM) (w : WM) : Prop where
  nd : w.refs.Nodup
  mem : ∀ r ∈ w.refs, ∃ x ∈ l, x.ref = r
  len : w.items.length ≤ 1000 * w.refs.length
theorem okW_node {l : List NamedM} (ht : tinyL l) {p : PlaceM} {w : WM} (h : okW l w) : okW l (nodeW l p w).2.2 := by
  unfold nodeW
  split
  · exact h
  · split
    · exact h
    · rename_i _ he
      split
      · exact h
      · rename_i hc
        simp only [Bool.or_eq_true, not_or, Bool.not_eq_true] at hc
        have hnm : p.ref ∉ w.refs := by simpa using hc.1
        refine ⟨?_, fun r hr => ?_, ?_⟩
        · exact List.nodup_append.2 ⟨h.nd, by simp, fun a ha b hb => by
            rw [List.mem_singleton] at hb
            subst hb
            exact fun e => hnm (e ▸ ha)⟩
        · rcases List.mem_append.1 hr with hr | hr
          · exact h.mem r hr
          · rw [List.mem_singleton] at hr
            subst hr
            cases hf : l.find? (fun x => x.ref == p.ref) with
            | none => simp [nodeM, hf] at he
            | some x => exact ⟨x, List.mem_of_find?_eq_some hf, by simpa using List.find?_some hf⟩
        · have := (tiny_node ht p.ref).1
          have := h.len
          simp only [List.length_append, List.length_singleton]
          split
          · rw [List.length_append]; omega
          · omega
theorem goM_inv {P : WM → Prop} {v : PlaceM → WM → Int × WM} (hv : ∀ p w, P w → P (v p w).2) (p : PlaceM) (n : NodeM) : ∀ (ks : List Nat) (w : WM), P w → P (goM v p n ks w).2
  | [], w, h => h
  | k :: ks, w, h => by
    rw [goM]
    split
    · exact hv _ _ h
    · exact goM_inv hv p n ks _ (hv _ _ h)
theorem okW_visit {l : List NamedM} (ht : tinyL l) : ∀ (d : Nat) (p : PlaceM) (w : WM), okW l w → okW l (visitM l d p w).2
  | 0, _, w, h => h
  | d + 1, p, w, h => by
    rw [visitM]
    split
    · exact okW_node ht h
    · exact goM_inv (okW_visit ht d) p _ _ _ (okW_node ht h)
theorem nd_le : ∀ (a b : List Int), a.Nodup → (∀ x ∈ a, x ∈ b) → a.length ≤ b.length
  | [], _, _, _ => Nat.zero_le _
  | x :: a, b, hn, h => by
    have hx_ := h x List.mem_cons_self
    have h1 := nd_le a (b.erase x) (List.nodup_cons.1 hn).2 fun y hy => (List.mem_erase_of_ne (fun (e : y = x) => (List.nodup_cons.1 hn).1 (e ▸ hy))).2 (h y (List.mem_cons_of_mem _ hy))
    rw [List.length_erase_of_mem hx_] at h1
    have : 0 < b.length := List.length_pos_of_mem hx_
    rw [List.length_cons]; omega
theorem okW.le {l : List NamedM} {w : WM} (h : okW l w) : w.refs.length ≤ l.length := by
  have := nd_le w.refs (l.map (·.ref)) h.nd fun x hx => by
    obtain ⟨y, hy, rfl⟩ := h.mem x hx
    exact List.mem_map.2 ⟨y, hy, rfl⟩
  simpa using this

theorem okP_kid {p : PlaceM} {n : NodeM} (hp : okP_ p) (hn : okN n) (k : Nat) : okP_ (kidM p n k) := by
  have hk : ∀ j : Nat, okB (((n.kids[j]?).map (·.key)).getD []) := fun j => by
    cases h : n.kids[j]? with
    | none => exact ok_nil
    | some x => exact hn.k.h x (List.mem_of_getElem? h)
  constructor
  · show okB (if 0 < k then _ else _)
    split
    · exact hk k
    · exact hp.l
  · show okB (if k + 1 < n.kids.length then _ else _)
    split
    · exact hk (k + 1)
    · exact hp.h
/-- The function that visits. -/
def visitF (i6 i7 : Nat) : AV := .fn (.func 54) [] [.ptr i6 0 0, .ptr i7 0 0]
theorem l54 {l : List NamedM} {v : PlaceM → WM → Int × WM} {wid mid i6 i7 i3 i5 : Nat} {p : PlaceM} {a b : AV} {n : NodeM} (ha : NB a p.lk) (hb : NB b p.hk) (hp : okP_ p) (hn : okN n) (hd : 1 ≤ p.deep ∧ p.deep ≤ 12)
   (hne : i6 ≠ wid ∧ i7 ≠ wid ∧ i3 ≠ wid ∧ i5 ≠ wid) (hok : ∀ p w, okW l w → okW l (v p w).2)
   (hv : ∀ (k : Nat) (w : WM) (H : Heap), okW l w → WS H l wid mid w → H.get i6 = some (.box false [.ptr wid 0 0]) → H.get i7 = some (.box false [visitF i6 i7]) →
     ∃ H', callL ft (visitF i6 i7) [.agg (placeE (kidM p n k))] H = some (int (v (kidM p n k) w).1, H') ∧ WS H' l wid mid (v (kidM p n k) w).2 ∧ Keep wid H H')
   (R : Int × WM) (K0 : Heap) {Q : AExit → Env → Heap → Prop}
   (hex : ∀ f' K, f' 6 = int R.1 → WS K l wid mid R.2 → Keep wid K0 K → Q (.exit 0) (mkE 32 f') (hx K [])) :
   ∀ (j k : Nat) (w : WM) (e : Int) (K : Heap) (f : Nat → AV), k + j = n.kids.length → R = (if e = 0 then goM v p n (List.range' k j) w else (e, w)) → okW l w → WS K l wid mid w → Keep wid K0 K →
    K.get i6 = some (.box false [.ptr wid 0 0]) → K.get i7 = some (.box false [visitF i6 i7]) → K.get i3 = some (.box false (placeC p a b)) → K.get i5 = some (.box false (nodeC n)) →
    f 2 = .ptr i7 0 0 → f 3 = .ptr i3 0 0 → f 5 = .ptr i5 0 0 → f 6 = int e → f 7 = int k →
    AW ft (.loop c54L0) (mkE 32 f) (hx K []) Q := by
  intro j
  have hi := hn.k.n
  unfold MX at hi
  induction j with
  | zero =>
    intro k w e K f hd' hR ho hw hK g6 g7 g3 g5 h2 h3 h5 h6 h7
    have g : ((k : Int) < n.kids.length) = False := eq_false (by omega)
    have o5 := get_old g5
    rw [AW_loop]
    unfold c54L0
    have hR' : R = (e, w) := by
      rw [hR]
      split
      · rename_i h; rw [h]; rfl
      · rfl
    simp only [↓vp, vq0, vq1, vq2, vq3, vr0, vr1, vr2, vr3, vr4, vr5, vr6, vr7, vr8, vr9, vr10, vr11, vr12, vr13, vr14, vr15, vr16, vr17, vr18, vr19, vr20, vr21, vr22, vr23, vr24, vr25, vr26, vr27, vr28, vr29, vr30, vr31, vr32, vr33, vr34, opS, fpS, okP, pack, nAl, allocA, shId, leaves, fillA, fillR, splice, Nat.reduceLT, Nat.reduceEqDiff, Nat.reduceLeDiff, Nat.reduceAdd, Nat.reduceSub, Nat.reduceMul, Int.reduceBEq, Int.reduceBNe, Int.reduceLT, Int.reduceLE, Int.reduceEq, reduceIte, reduceCtorEq, da, int, boolA, h5, h7, o5, g]
    refine hex _ _ ?_ ?_ hK
    · simp only [↓vp, vq0, vq1, vq2, vq3, vr0, vr1, vr2, vr3, vr4, vr5, vr6, vr7, vr8, vr9, vr10, vr11, vr12, vr13, vr14, vr15, vr16, vr17, vr18, vr19, vr20, vr21, vr22, vr23, vr24, vr25, vr26, vr27, vr28, vr29, vr30, vr31, vr32, vr33, vr34, opS, fpS, okP, pack, nAl, allocA, shId, leaves, fillA, fillR, splice, Nat.reduceLT, Nat.reduceEqDiff, Nat.reduceLeDiff, Nat.reduceAdd, Nat.reduceSub, Nat.reduceMul, Int.reduceBEq, Int.reduceBNe, Int.reduceLT, Int.reduceLE, Int.reduceEq, reduceIte, reduceCtorEq, da, int, boolA, h6, hR']
    · rw [hR']; exact hw
  | succ j ih =>
    intro k w e K f hd' hR ho hw hK g6 g7 g3 g5 h2 h3 h5 h6 h7
    have g : ((k : Int) < n.kids.length) = True := eq_true (by omega)
    have gk : k < n.kids.length := by omega
    have w1 := wrap_succ (show k < 9223372036854775807 by omega)
    have o5 := get_old g5
    have o7 := get_old g7
    have o3 := get_old g3
    have cl : (placeC p a b).length = 6 := rfl
    have c6 : (placeC p a b).take 6 = placeC p a b := rfl
    rw [AW_loop]
    unfold c54L0
    cases e1 : (e == 0) with
    | false =>
      have e1' : ¬ e = 0 := by simpa using e1
      rw [if_neg e1'] at hR
      simp only [↓vp, vq0, vq1, vq2, vq3, vr0, vr1, vr2, vr3, vr4, vr5, vr6, vr7, vr8, vr9, vr10, vr11, vr12, vr13, vr14, vr15, vr16, vr17, vr18, vr19, vr20, vr21, vr22, vr23, vr24, vr25, vr26, vr27, vr28, vr29, vr30, vr31, vr32, vr33, vr34, opS, fpS, okP, pack, nAl, allocA, shId, leaves, fillA, fillR, splice, Nat.reduceLT, Nat.reduceEqDiff, Nat.reduceLeDiff, Nat.reduceAdd, Nat.reduceSub, Nat.reduceMul, Int.reduceBEq, Int.reduceBNe, Int.reduceLT, Int.reduceLE, Int.reduceEq, reduceIte, reduceCtorEq, da, int, boolA, h5, h6, h7, o5, g, e1]
      refine hex _ _ ?_ ?_ hK
      · simp only [↓vp, vq0, vq1, vq2, vq3, vr0, vr1, vr2, vr3, vr4, vr5, vr6, vr7, vr8, vr9, vr10, vr11, vr12, vr13, vr14, vr15, vr16, vr17, vr18, vr19, vr20, vr21, vr22, vr23, vr24, vr25, vr26, vr27, vr28, vr29, vr30, vr31, vr32, vr33, vr34, opS, fpS, okP, pack, nAl, allocA, shId, leaves, fillA, fillR, splice, Nat.reduceLT, Nat.reduceEqDiff, Nat.reduceLeDiff, Nat.reduceAdd, Nat.reduceSub, Nat.reduceMul, Int.reduceBEq, Int.reduceBNe, Int.reduceLT, Int.reduceLE, Int.reduceEq, reduceIte, reduceCtorEq, da, int, boolA, h6, hR]
      · rw [hR]; exact hw
    | true =>
      have e1' : e = 0 := by simpa using e1
      subst e1'
      rw [if_pos rfl, List.range'_succ, goM] at hR
      have x56 := fun K L Q => k56 ha hb hn ⟨by omega, by omega⟩ gk (K := K) (L := L) (Q := Q)
      have pv : pureV ft (.fn (.func 56) [] []) [.agg (placeC p a b), .agg (nodeC n), .sc (.int .i64 k)] = true := by
        rcases ha with rfl | ⟨rfl, h⟩ <;> rcases hb with rfl | ⟨rfl, h'⟩ <;> rfl
      simp only [int] at x56
      simp only [visitF] at o7
      simp only [↓vp, vq0, vq1, vq2, vq3, vr0, vr1, vr2, vr3, vr4, vr5, vr6, vr7, vr8, vr9, vr10, vr11, vr12, vr13, vr14, vr15, vr16, vr17, vr18, vr19, vr20, vr21, vr22, vr23, vr24, vr25, vr26, vr27, vr28, vr29, vr30, vr31, vr32, vr33, vr34, opS, fpS, okP, pack, nAl, allocA, shId, leaves, fillA, fillR, splice, Nat.reduceLT, Nat.reduceEqDiff, Nat.reduceLeDiff, Nat.reduceAdd, Nat.reduceSub, Nat.reduceMul, Int.reduceBEq, Int.reduceBNe, Int.reduceLT, Int.reduceLE, Int.reduceEq, reduceIte, reduceCtorEq, da, int, boolA, h2, h3, h5, h6, h7, o5, o7, o3, g, cl, c6, x56, pv]
      rw [hx_nil K]
      refine KW_ex (hv k w K ho hw g6 g7) (fun K1 hP => ?_)
      obtain ⟨hW1, hK1⟩ := hP
      rw [← hx_nil K1]
      simp only [↓vp, vq0, vq1, vq2, vq3, vr0, vr1, vr2, vr3, vr4, vr5, vr6, vr7, vr8, vr9, vr10, vr11, vr12, vr13, vr14, vr15, vr16, vr17, vr18, vr19, vr20, vr21, vr22, vr23, vr24, vr25, vr26, vr27, vr28, vr29, vr30, vr31, vr32, vr33, vr34, opS, fpS, okP, pack, nAl, allocA, shId, leaves, fillA, fillR, splice, Nat.reduceLT, Nat.reduceEqDiff, Nat.reduceLeDiff, Nat.reduceAdd, Nat.reduceSub, Nat.reduceMul, Int.reduceBEq, Int.reduceBNe, Int.reduceLT, Int.reduceLE, Int.reduceEq, reduceIte, reduceCtorEq, da, int, boolA, h2, h3, h5, h6, h7, g, w1]
      refine ih (k + 1) (v (kidM p n k) w).2 (v (kidM p n k) w).1 K1 _ (by omega) ?_ (hok _ _ ho) hW1 (hK.trans hK1) (hK1.2 _ _ _ hne.1 g6) (hK1.2 _ _ _ hne.2.1 g7) (hK1.2 _ _ _ hne.2.2.1 g3) (hK1.2 _ _ _ hne.2.2.2 g5) ?_ ?_ ?_ ?_ ?_
      · rw [hR]
        by_cases h0 : (v (kidM p n k) w).1 = 0
        · rw [if_neg (by simpa using h0), if_pos h0]
        · rw [if_pos h0, if_neg h0]
      all_goals simp only [↓vp, vq0, vq1, vq2, vq3, vr0, vr1, vr2, vr3, vr4, vr5, vr6, vr7, vr8, vr9, vr10, vr11, vr12, vr13, vr14, vr15, vr16, vr17, vr18, vr19, vr20, vr21, vr22, vr23, vr24, vr25, vr26, vr27, vr28, vr29, vr30, vr31, vr32, vr33, vr34, opS, fpS, okP, pack, nAl, allocA, shId, leaves, fillA, fillR, splice, Nat.reduceLT, Nat.reduceEqDiff, Nat.reduceLeDiff, Nat.reduceAdd, Nat.reduceSub, Nat.reduceMul, Int.reduceBEq, Int.reduceBNe, Int.reduceLT, Int.reduceLE, Int.reduceEq, reduceIte, reduceCtorEq, da, int, boolA, h2, h3, h5]

theorem nodeR_len (n : NodeM) (e : Int) : (nodeR n e).length = 3 := by unfold nodeR; split <;> rfl
theorem nodeR_one (n : NodeM) (e : Int) : oneAll (nodeR n e) = true := by unfold nodeR; split <;> rfl
theorem nodeR_take (n : NodeM) (e : Int) : (nodeR n e).take 3 = nodeR n e := by unfold nodeR; split <;> rfl
theorem nodeW_ok {l : List NamedM} (hl : okL l) (p : PlaceM) (w : WM) : okN (nodeW l p w).1 := by
  have h0 : okN noNode := ⟨⟨by decide, fun _ h => by cases h⟩, ⟨by decide, fun _ h => by cases h⟩⟩
  unfold nodeW
  split
  · exact h0
  · split
    · exact h0
    · split
      · exact h0
      · exact ok_node hl _
theorem nodeW_deep {l : List NamedM} {p : PlaceM} {w : WM} (h : 12 < p.deep) : (nodeW l p w).2.1 = 130 ∧ (nodeW l p w).2.2 = w := by
  unfold nodeW
  rw [if_pos h]
  exact ⟨rfl, rfl⟩
theorem s54 {l : List NamedM} (hl : okL l) (ht : tinyL l) (hlen : l.length ≤ 1000) {wid mid i6 i7 : Nat} (hne : i6 ≠ wid ∧ i7 ≠ wid) : ∀ (d : Nat) (p : PlaceM) (a b : AV) (w : WM) (H : Heap), NB a p.lk → NB b p.hk → okP_ p → p.deep + d = 13 → 1 ≤ p.deep → okW l w → WS H l wid mid w →
    H.get i6 = some (.box false [.ptr wid 0 0]) → H.get i7 = some (.box false [visitF i6 i7]) →
    ∃ H', callL ft (visitF i6 i7) [.agg (placeC p a b)] H = some (int (visitM l d p w).1, H') ∧ WS H' l wid mid (visitM l d p w).2 ∧ Keep wid H H' := by
  intro d
  induction d with
  | zero =>
    intro p a b w H ha hb hp hd h1 ho hw g6 g7
    refine call_oE rfl (by simp) ?_
    have cl : (placeC p a b).length = 6 := rfl
    have c6 : (placeC p a b).take 6 = placeC p a b := rfl
    have ca : oneAll (placeC p a b) = true := by
      show (true && (true && (true && (a.one && (true && (b.one && true)))))) = true
      rw [ha.one, hb.one]; rfl
    have o6 := get_old g6
    have hle := ho.le
    have hlen' := ho.len
    obtain ⟨q1, q2⟩ := nodeW_deep (l := l) (w := w) (show 12 < p.deep by omega)
    have hS := s55 hl ht ha hb hp (hw.hx [.box false (placeC p a b)]) (by omega) (by omega)
    have hR : nodeR (nodeW l p w).1 130 = [boolA false, .sc (.slice none 0 0), .sc (.slice none 0 0)] := by unfold nodeR; rw [if_neg (by decide)]
    rw [q1, q2, hR] at hS
    unfold c54 r54
    simp only [↓vp, vq0, vq1, vq2, vq3, vr0, vr1, vr2, vr3, vr4, vr5, vr6, vr7, vr8, vr9, vr10, vr11, vr12, vr13, vr14, vr15, vr16, vr17, vr18, vr19, vr20, vr21, vr22, vr23, vr24, vr25, vr26, vr27, vr28, vr29, vr30, vr31, vr32, vr33, vr34, opS, fpS, okP, pack, nAl, allocA, shId, leaves, fillA, fillR, splice, Nat.reduceLT, Nat.reduceEqDiff, Nat.reduceLeDiff, Nat.reduceAdd, Nat.reduceSub, Nat.reduceMul, Int.reduceBEq, Int.reduceBNe, Int.reduceLT, Int.reduceLE, Int.reduceEq, reduceIte, reduceCtorEq, da, int, boolA, cl, c6, ca, o6]
    refine KW_ex hS (fun H1 hP => ?_)
    obtain ⟨hW1, hK1⟩ := hP
    rw [← hx_nil H1]
    simp only [↓vp, vq0, vq1, vq2, vq3, vr0, vr1, vr2, vr3, vr4, vr5, vr6, vr7, vr8, vr9, vr10, vr11, vr12, vr13, vr14, vr15, vr16, vr17, vr18, vr19, vr20, vr21, vr22, vr23, vr24, vr25, vr26, vr27, vr28, vr29, vr30, vr31, vr32, vr33, vr34, opS, fpS, okP, pack, nAl, allocA, shId, leaves, fillA, fillR, splice, Nat.reduceLT, Nat.reduceEqDiff, Nat.reduceLeDiff, Nat.reduceAdd, Nat.reduceSub, Nat.reduceMul, Int.reduceBEq, Int.reduceBNe, Int.reduceLT, Int.reduceLE, Int.reduceEq, reduceIte, reduceCtorEq, da, int, boolA]
    rw [AW_loop]
    unfold c54L0 c54R1
    simp only [↓vp, vq0, vq1, vq2, vq3, vr0, vr1, vr2, vr3, vr4, vr5, vr6, vr7, vr8, vr9, vr10, vr11, vr12, vr13, vr14, vr15, vr16, vr17, vr18, vr19, vr20, vr21, vr22, vr23, vr24, vr25, vr26, vr27, vr28, vr29, vr30, vr31, vr32, vr33, vr34, opS, fpS, okP, pack, nAl, allocA, shId, leaves, fillA, fillR, splice, Nat.reduceLT, Nat.reduceEqDiff, Nat.reduceLeDiff, Nat.reduceAdd, Nat.reduceSub, Nat.reduceMul, Int.reduceBEq, Int.reduceBNe, Int.reduceLT, Int.reduceLE, Int.reduceEq, reduceIte, reduceCtorEq, da, int, boolA, RetE_go, resT, resC, resN, retV1]
    exact ⟨rfl, hW1.hx _, (Keep.hx _).trans (hK1.trans (Keep.hx _))⟩
  | succ d ih =>
    intro p a b w H ha hb hp hd h1 ho hw g6 g7
    refine call_oE rfl (by simp) ?_
    have cl : (placeC p a b).length = 6 := rfl
    have c6 : (placeC p a b).take 6 = placeC p a b := rfl
    have ca : oneAll (placeC p a b) = true := by
      show (true && (true && (true && (a.one && (true && (b.one && true)))))) = true
      rw [ha.one, hb.one]; rfl
    have o6 := get_old g6
    have hle := ho.le
    have hlen' := ho.len
    have hS := s55 hl ht ha hb hp (hw.hx [.box false (placeC p a b)]) (by omega) (by omega)
    have hn := nodeW_ok hl p w
    have ho1 := okW_node ht (p := p) ho
    have hV : visitM l (d + 1) p w = if (nodeW l p w).2.1 ≠ 0 then ((nodeW l p w).2.1, (nodeW l p w).2.2) else goM (visitM l d) p (nodeW l p w).1 (List.range (nodeW l p w).1.kids.length) (nodeW l p w).2.2 := rfl
    rw [hV]
    clear hV
    generalize nodeW l p w = N at *
    obtain ⟨n, e, w1⟩ := N
    simp only at hS hn ho1 ⊢
    have r1 := nodeR_len n e
    have r2 := nodeR_one n e
    have r3 := nodeR_take n e
    have lw := Heap.get_lt g6
    obtain ⟨sI, sR, gw, _⟩ := hw.ex
    have lwid := Heap.get_lt gw
    unfold c54 r54
    simp only [↓vp, vq0, vq1, vq2, vq3, vr0, vr1, vr2, vr3, vr4, vr5, vr6, vr7, vr8, vr9, vr10, vr11, vr12, vr13, vr14, vr15, vr16, vr17, vr18, vr19, vr20, vr21, vr22, vr23, vr24, vr25, vr26, vr27, vr28, vr29, vr30, vr31, vr32, vr33, vr34, opS, fpS, okP, pack, nAl, allocA, shId, leaves, fillA, fillR, splice, Nat.reduceLT, Nat.reduceEqDiff, Nat.reduceLeDiff, Nat.reduceAdd, Nat.reduceSub, Nat.reduceMul, Int.reduceBEq, Int.reduceBNe, Int.reduceLT, Int.reduceLE, Int.reduceEq, reduceIte, reduceCtorEq, da, int, boolA, cl, c6, ca, o6]
    refine KW_ex hS (fun H1 hP => ?_)
    obtain ⟨hW1, hK1⟩ := hP
    have k6 := hK1.2 i6 _ _ hne.1 (get_old g6 _)
    have k7 := hK1.2 i7 _ _ hne.2 (get_old g7 _)
    have k3 := hK1.2 H.next false (placeC p a b) (by omega) (hx_get0 _ _)
    have n1 : H.next < H1.next := Heap.get_lt k3
    rw [← hx_nil H1]
    by_cases he : e = 0
    · subst he
      rw [if_neg (by simp)]
      have hR : nodeR n 0 = nodeC n := rfl
      rw [hR] at r1 r2 r3 ⊢
      simp only [↓vp, vq0, vq1, vq2, vq3, vr0, vr1, vr2, vr3, vr4, vr5, vr6, vr7, vr8, vr9, vr10, vr11, vr12, vr13, vr14, vr15, vr16, vr17, vr18, vr19, vr20, vr21, vr22, vr23, vr24, vr25, vr26, vr27, vr28, vr29, vr30, vr31, vr32, vr33, vr34, opS, fpS, okP, pack, nAl, allocA, shId, leaves, fillA, fillR, splice, Nat.reduceLT, Nat.reduceEqDiff, Nat.reduceLeDiff, Nat.reduceAdd, Nat.reduceSub, Nat.reduceMul, Int.reduceBEq, Int.reduceBNe, Int.reduceLT, Int.reduceLE, Int.reduceEq, reduceIte, reduceCtorEq, da, int, boolA, r1, r2, r3]
      rw [← hx_nil (hx _ _)]
      refine l54 (v := visitM l d) (wid := wid) (mid := mid) (i6 := i6) (i7 := i7) (i3 := H.next) (i5 := H1.next) (p := p) ha hb hp hn ⟨h1, by omega⟩ ⟨hne.1, hne.2, by omega, fun e => ?_⟩ (okW_visit ht d)
        (fun k w H ho hw g6 g7 => ih (kidM p n k) _ _ w H (nb_B _) (nb_B _) (okP_kid hp hn k) (by show p.deep + 1 + d = 13; omega) (by show 1 ≤ p.deep + 1; omega) ho hw g6 g7)
        (goM (visitM l d) p n (List.range n.kids.length) w1) H (fun f' K q6 hWK hKK => ?_) n.kids.length 0 w1 0 (hx H1 [.box false (nodeC n)]) _ (by simp) ?_ ho1 (hW1.hx _) ((Keep.hx _).trans (hK1.trans (Keep.hx _))) (get_old k6 _) (get_old k7 _) (get_old k3 _) (hx_get0 _ _) ?_ ?_ ?_ ?_ ?_
      · obtain ⟨_, _, gw', _⟩ := hW1.ex
        have := Heap.get_lt gw'
        omega
      · unfold c54R1
        simp only [↓vp, vq0, vq1, vq2, vq3, vr0, vr1, vr2, vr3, vr4, vr5, vr6, vr7, vr8, vr9, vr10, vr11, vr12, vr13, vr14, vr15, vr16, vr17, vr18, vr19, vr20, vr21, vr22, vr23, vr24, vr25, vr26, vr27, vr28, vr29, vr30, vr31, vr32, vr33, vr34, opS, fpS, okP, pack, nAl, allocA, shId, leaves, fillA, fillR, splice, Nat.reduceLT, Nat.reduceEqDiff, Nat.reduceLeDiff, Nat.reduceAdd, Nat.reduceSub, Nat.reduceMul, Int.reduceBEq, Int.reduceBNe, Int.reduceLT, Int.reduceLE, Int.reduceEq, reduceIte, reduceCtorEq, da, int, boolA, RetE_go, resT, resC, resN, retV1, q6]
        exact ⟨hWK.hx _, hKK.trans (Keep.hx _)⟩
      · rw [if_pos rfl, List.range_eq_range']
      all_goals first | rfl | (simp only [↓vp, vq0, vq1, vq2, vq3, vr0, vr1, vr2, vr3, vr4, vr5, vr6, vr7, vr8, vr9, vr10, vr11, vr12, vr13, vr14, vr15, vr16, vr17, vr18, vr19, vr20, vr21, vr22, vr23, vr24, vr25, vr26, vr27, vr28, vr29, vr30, vr31, vr32, vr33, vr34, opS, fpS, okP, pack, nAl, allocA, shId, leaves, fillA, fillR, splice, Nat.reduceLT, Nat.reduceEqDiff, Nat.reduceLeDiff, Nat.reduceAdd, Nat.reduceSub, Nat.reduceMul, Int.reduceBEq, Int.reduceBNe, Int.reduceLT, Int.reduceLE, Int.reduceEq, reduceIte, reduceCtorEq, da, int, boolA]; done)
    · rw [if_pos he]
      have hR : nodeR n e = [boolA false, .sc (.slice none 0 0), .sc (.slice none 0 0)] := by unfold nodeR; rw [if_neg he]
      rw [hR] at r1 r2 r3 ⊢
      simp only [↓vp, vq0, vq1, vq2, vq3, vr0, vr1, vr2, vr3, vr4, vr5, vr6, vr7, vr8, vr9, vr10, vr11, vr12, vr13, vr14, vr15, vr16, vr17, vr18, vr19, vr20, vr21, vr22, vr23, vr24, vr25, vr26, vr27, vr28, vr29, vr30, vr31, vr32, vr33, vr34, opS, fpS, okP, pack, nAl, allocA, shId, leaves, fillA, fillR, splice, Nat.reduceLT, Nat.reduceEqDiff, Nat.reduceLeDiff, Nat.reduceAdd, Nat.reduceSub, Nat.reduceMul, Int.reduceBEq, Int.reduceBNe, Int.reduceLT, Int.reduceLE, Int.reduceEq, reduceIte, reduceCtorEq, da, int, boolA, r1, r2, r3]
      rw [AW_loop]
      unfold c54L0 c54R1
      simp only [↓vp, vq0, vq1, vq2, vq3, vr0, vr1, vr2, vr3, vr4, vr5, vr6, vr7, vr8, vr9, vr10, vr11, vr12, vr13, vr14, vr15, vr16, vr17, vr18, vr19, vr20, vr21, vr22, vr23, vr24, vr25, vr26, vr27, vr28, vr29, vr30, vr31, vr32, vr33, vr34, opS, fpS, okP, pack, nAl, allocA, shId, leaves, fillA, fillR, splice, Nat.reduceLT, Nat.reduceEqDiff, Nat.reduceLeDiff, Nat.reduceAdd, Nat.reduceSub, Nat.reduceMul, Int.reduceBEq, Int.reduceBNe, Int.reduceLT, Int.reduceLE, Int.reduceEq, reduceIte, reduceCtorEq, da, int, boolA, RetE_go, resT, resC, resN, retV1]
      exact ⟨hW1.hx _, (Keep.hx _).trans (hK1.trans (Keep.hx _))⟩

/-- All of a tree: what is met, and why not. -/
def w0 : WM := ⟨[], [], 0⟩
def root0 (root : Int) : PlaceM := ⟨root, 1, false, [], false, []⟩
def allM (l : List NamedM) (root : Int) : WM × Int :=
  if (visitM l 12 (root0 root) w0).1 ≠ 0 then (w0, (visitM l 12 (root0 root) w0).1) else ((visitM l 12 (root0 root) w0).2, 0)
def wholeC (w : WM) : List AV := [encI w.items, encN w.refs, int w.depth]
theorem frz_rep_keep {K : Heap} {sz : Nat} {S : AV} {rows : List (List AV)} (h : Rep K sz S rows) (n : Nat) : ∃ K', frz (n + 1) K S = some (.lst rows, K') ∧ ∀ sz' T rows', sz' ≠ sz → Rep K sz' T rows' → Rep K' sz' T rows' := by
  rcases h with ⟨rfl, rfl⟩ | ⟨id, rfl, h⟩
  · exact ⟨K, rfl, fun _ _ _ _ h => h⟩
  · refine ⟨K.set id (.row true sz rows), ?_, fun sz' T rows' hs hr => hr.mono fun j hj => ?_⟩
    · rw [frz_sl, h]
      simp
    · rw [Heap.get_set_ne _ (fun e => by rw [e, h] at hj; cases hj; exact hs rfl), hj]
theorem s21 (l : List NamedM) (hl : okL l) (ht : tinyL l) (hlen : l.length ≤ 1000) (root : Int) (H : Heap) : callL ft (.fn (.func 21) [] []) [srcF l, int root] H = some (.tup [.agg (wholeC (allM l root).1), int (allM l root).2], H) := by
  refine call_p (as' := [srcF l, int root]) rfl rfl (by simp) ?_
  have hn : isnilA 3 (srcF l) = some false := rfl
  have z1 : (srcF l).cells = [srcF l] := rfl
  have z2 : (srcF l).one = true := rfl
  unfold c21 r21
  simp only [↓vp, vq0, vq1, vq2, vq3, vr0, vr1, vr2, vr3, vr4, vr5, vr6, vr7, vr8, vr9, vr10, vr11, vr12, vr13, vr14, vr15, vr16, vr17, vr18, vr19, vr20, vr21, vr22, vr23, vr24, vr25, vr26, vr27, vr28, vr29, vr30, vr31, vr32, vr33, vr34, opS, fpS, okP, pack, nAl, allocA, shId, leaves, fillA, fillR, splice, Nat.reduceLT, Nat.reduceEqDiff, Nat.reduceLeDiff, Nat.reduceAdd, Nat.reduceSub, Nat.reduceMul, Int.reduceBEq, Int.reduceBNe, Int.reduceLT, Int.reduceLE, Int.reduceEq, reduceIte, reduceCtorEq, da, int, boolA, hn, z1, z2]
  refine KW_ex (s54 hl ht hlen (wid := 2) (mid := 1) (i6 := 3) (i7 := 4) ⟨by decide, by decide⟩ 12 (root0 root) _ _ w0 _ (.inr ⟨rfl, rfl⟩) (.inr ⟨rfl, rfl⟩) ⟨ok_nil, ok_nil⟩ rfl (Int.le_refl _) ⟨List.nodup_nil, (by intro r hr; cases hr), (by decide)⟩
    ⟨_, _, rfl, .inl ⟨rfl, rfl⟩, .inl ⟨rfl, rfl⟩, rfl⟩ rfl rfl) (fun H1 hP => ?_)
  obtain ⟨hW, hK⟩ := hP
  have k0 := hK.2 0 _ _ (by decide) rfl
  have k3 := hK.2 3 _ _ (by decide) rfl
  obtain ⟨sI, sR, g2, rI, rR, _⟩ := hW.ex
  have o0 := get_old k0
  have o2 := get_old g2
  have o3 := get_old k3
  have l0 := Heap.get_lt k0
  have p0 := fun L b => hx_set_old H1 L b 0 l0
  have cI : sI.one = true := by rcases rI with ⟨rfl, _⟩ | ⟨_, rfl, _⟩ <;> rfl
  have cR : sR.one = true := by rcases rR with ⟨rfl, _⟩ | ⟨_, rfl, _⟩ <;> rfl
  rw [← hx_nil H1]
  cases e1 : ((visitM l 12 (root0 root) w0).1 != 0) with
  | true =>
    have e1' : (visitM l 12 (root0 root) w0).1 ≠ 0 := by simpa using e1
    have hA : allM l root = (w0, (visitM l 12 (root0 root) w0).1) := by unfold allM; rw [if_pos e1']
    rw [hA]
    have oS : ∀ (b : Blk) (L : List Blk), (hx (H1.set 0 b) L).get 0 = some b := fun b L => get_old (Heap.get_set_self b l0) L
    simp only [↓vp, vq0, vq1, vq2, vq3, vr0, vr1, vr2, vr3, vr4, vr5, vr6, vr7, vr8, vr9, vr10, vr11, vr12, vr13, vr14, vr15, vr16, vr17, vr18, vr19, vr20, vr21, vr22, vr23, vr24, vr25, vr26, vr27, vr28, vr29, vr30, vr31, vr32, vr33, vr34, opS, fpS, okP, pack, nAl, allocA, shId, leaves, fillA, fillR, splice, Nat.reduceLT, Nat.reduceEqDiff, Nat.reduceLeDiff, Nat.reduceAdd, Nat.reduceSub, Nat.reduceMul, Int.reduceBEq, Int.reduceBNe, Int.reduceLT, Int.reduceLE, Int.reduceEq, reduceIte, reduceCtorEq, da, int, boolA, RetP_go, resT, resC, resN, retV1, retV2, retV3, retV0, frzFZ, takeM, Option.some.injEq, e1, o0, p0, oS]
    rfl
  | false =>
    have e1' : ¬ (visitM l 12 (root0 root) w0).1 ≠ 0 := by simpa using e1
    have hA : allM l root = ((visitM l 12 (root0 root) w0).2, 0) := by unfold allM; rw [if_neg e1']
    rw [hA]
    have oS : ∀ (b : Blk) (L : List Blk), (hx (H1.set 0 b) L).get 0 = some b := fun b L => get_old (Heap.get_set_self b l0) L
    have mono : ∀ (b : Blk) {sz : Nat} {S : AV} {rows : List (List AV)}, Rep H1 sz S rows → Rep (hx (H1.set 0 b) []) sz S rows := fun b {sz S rows} h => h.mono fun id hid => by
      rw [hx_nil, Heap.get_set_ne _ (fun e => by rw [e, k0] at hid; cases hid), hid]
    simp only [int] at o2
    simp only [↓vp, vq0, vq1, vq2, vq3, vr0, vr1, vr2, vr3, vr4, vr5, vr6, vr7, vr8, vr9, vr10, vr11, vr12, vr13, vr14, vr15, vr16, vr17, vr18, vr19, vr20, vr21, vr22, vr23, vr24, vr25, vr26, vr27, vr28, vr29, vr30, vr31, vr32, vr33, vr34, opS, fpS, okP, pack, nAl, allocA, shId, leaves, fillA, fillR, splice, Nat.reduceLT, Nat.reduceEqDiff, Nat.reduceLeDiff, Nat.reduceAdd, Nat.reduceSub, Nat.reduceMul, Int.reduceBEq, Int.reduceBNe, Int.reduceLT, Int.reduceLE, Int.reduceEq, reduceIte, reduceCtorEq, da, int, boolA, RetP_go, resT, resC, resN, retV1, retV2, retV3, retV0, frzFZ, takeM, Option.some.injEq, e1, o0, o2, o3, p0, oS, cI, cR]
    obtain ⟨K1, h1, h2⟩ := frz_rep_keep (mono (.box false [sI, sR, .sc (.int .i64 (visitM l 12 (root0 root) w0).2.depth)]) rI) 19
    obtain ⟨K2, h3, _⟩ := frz_rep_keep (h2 _ _ _ (by decide) (mono _ rR)) 18
    simp only [Nat.reduceAdd] at h1 h3
    simp only [h1, h3, Option.bind_some, Option.map_some]
    rfl
theorem k21 {l : List NamedM} (hl : okL l) (ht : tinyL l) (hlen : l.length ≤ 1000) {root : Int} {K : Heap} {L : List Blk} {Q : AV → Heap → Prop} :
    KW ft (.fn (.func 21) [] []) [srcF l, int root] (hx K L) Q ↔ Q (.tup [.agg (wholeC (allM l root).1), int (allM l root).2]) (hx K L) := KW_of (s21 l hl ht hlen root _)
/-- Without a source there is nothing. -/
theorem s21n (root : Int) (H : Heap) : callL ft (.fn (.func 21) [] []) [.sc .nilFunc, int root] H = some (.tup [.agg (wholeC w0), int 1], H) := by
  refine call_p (as' := [.sc .nilFunc, int root]) rfl rfl (by simp) ?_
  have hn : isnilA 3 (.sc .nilFunc) = some true := rfl
  unfold c21 r21
  simp only [↓vp, vq0, vq1, vq2, vq3, vr0, vr1, vr2, vr3, vr4, vr5, vr6, vr7, vr8, vr9, vr10, vr11, vr12, vr13, vr14, vr15, vr16, vr17, vr18, vr19, vr20, vr21, vr22, vr23, vr24, vr25, vr26, vr27, vr28, vr29, vr30, vr31, vr32, vr33, vr34, opS, fpS, okP, pack, nAl, allocA, shId, leaves, fillA, fillR, splice, Nat.reduceLT, Nat.reduceEqDiff, Nat.reduceLeDiff, Nat.reduceAdd, Nat.reduceSub, Nat.reduceMul, Int.reduceBEq, Int.reduceBNe, Int.reduceLT, Int.reduceLE, Int.reduceEq, reduceIte, reduceCtorEq, da, int, boolA, RetP_go, resT, resC, resN, retV1, retV2, retV3, retV0, frzFZ, takeM, Option.some.injEq, hn]
  rfl
theorem k21n {root : Int} {K : Heap} {L : List Blk} {Q : AV → Heap → Prop} :
    KW ft (.fn (.func 21) [] []) [.sc .nilFunc, int root] (hx K L) Q ↔ Q (.tup [.agg (wholeC w0), int 1]) (hx K L) := KW_of (s21n root _)
end Go.VI

/- VI, part ST: alive. -/
set_option linter.unusedVariables false
set_option linter.unusedSimpArgs false
set_option maxRecDepth 100000
namespace Go.VI
attribute [local congr] AW_congr OW_congr DW_congr NW_congr VW_congr GW_congr PW_congr KW_congr ite_congr' GV_congr CV_congr

theorem ias (H : Heap) (sz id off len : Nat) (i : Int) : iaddrA H none sz (.sl id off len) i = if 0 ≤ i ∧ i < len ∧ rowSz H id = some sz then some (.ptr id (off + i.toNat) 0) else none := rfl
theorem rsz (H : Heap) (id : Nat) : rowSz H id = match H.get id with
    | some (.row _ sz _) => some sz
    | _ => none := rfl
theorem clIt (x : ItemM) : closedL (itemC x) = true := rfl
theorem opI1 (e : Env) (x : Operand) : optI e (some x) = (toI (ev e x)).map some := rfl
theorem opI0 (e : Env) : optI e none = some none := rfl
theorem slA (H : Heap) (sz id off len : Nat) (lo hi mx : Option Int) : sliceA H sz (.sl id off len) lo hi mx = if rowSz H id = some sz then (boundsA len lo hi mx).map fun (l, h) => if 0 < l ∧ l = h then .lst [] else .sl id (off + l) (h - l) else none := rfl
def aItem : ItemM := ⟨[97], [], 0, 0⟩
def bItem : ItemM := ⟨[98], [], 0, 0⟩
/-- A branch of two leaves. -/
def two : List NamedM := [⟨2, ⟨true, [aItem], []⟩⟩, ⟨3, ⟨true, [bItem], []⟩⟩, ⟨4, ⟨false, [], [⟨[], 2⟩, ⟨[98], 3⟩]⟩⟩]
theorem s26 (H : Heap) : callL ft (.fn (.func 26) [] []) [encI [aItem, bItem], int 1, int 2] H = some (.tup [encL two, int 4], H) := by
  refine call_p (as' := [encI [aItem, bItem], int 1, int 2]) rfl rfl (by simp) ?_
  have at0 : ∀ H, iaddrA H none 4 (encI [aItem, bItem]) 0 = some (.pim [itemC aItem, itemC bItem] 0 0) := fun _ => rfl
  have at1 : ∀ H, iaddrA H none 4 (encI [aItem, bItem]) 1 = some (.pim [itemC aItem, itemC bItem] 1 0) := fun _ => rfl
  have c0 : ∀ H, cellsAt H (.pim [itemC aItem, itemC bItem] 0 0) 4 = some (itemC aItem) := fun _ => rfl
  have c1 : ∀ H, cellsAt H (.pim [itemC aItem, itemC bItem] 1 0) 4 = some (itemC bItem) := fun _ => rfl
  have wr1 : IntKind.i64.wrap 1 = 1 := rfl
  have wr2 : IntKind.i64.wrap 2 = 2 := rfl
  have wr3 : IntKind.i64.wrap 3 = 3 := rfl
  have wr4 : IntKind.i64.wrap 4 = 4 := rfl
  have wr5 : IntKind.i64.wrap 5 = 5 := rfl
  unfold c26 c26L3 c26R2 c26L0 c26R1 c26L6 c26L4 c26R5 c26R7 r26
  simp only [↓vp, vq0, vq1, vq2, vq3, vr0, vr1, vr2, vr3, vr4, vr5, vr6, vr7, vr8, vr9, vr10, vr11, vr12, vr13, vr14, vr15, vr16, vr17, vr18, vr19, vr20, vr21, vr22, vr23, vr24, vr25, vr26, vr27, vr28, vr29, vr30, vr31, vr32, vr33, vr34, opS, fpS, okP, pack, nAl, allocA, shId, leaves, fillA, fillR, splice, Nat.reduceLT, Nat.reduceEqDiff, Nat.reduceLeDiff, Nat.reduceAdd, Nat.reduceSub, Nat.reduceMul, Int.reduceBEq, Int.reduceBNe, Int.reduceLT, Int.reduceLE, Int.reduceEq, reduceIte, reduceCtorEq, da, int, boolA]
  repeat (rw [AW_loop]; simp only [↓vp, vq0, vq1, vq2, vq3, vr0, vr1, vr2, vr3, vr4, vr5, vr6, vr7, vr8, vr9, vr10, vr11, vr12, vr13, vr14, vr15, vr16, vr17, vr18, vr19, vr20, vr21, vr22, vr23, vr24, vr25, vr26, vr27, vr28, vr29, vr30, vr31, vr32, vr33, vr34, opS, fpS, okP, pack, nAl, allocA, shId, leaves, fillA, fillR, splice, Nat.reduceLT, Nat.reduceEqDiff, Nat.reduceLeDiff, Nat.reduceAdd, Nat.reduceSub, Nat.reduceMul, Int.reduceBEq, Int.reduceBNe, Int.reduceLT, Int.reduceLE, Int.reduceEq, reduceIte, reduceCtorEq, da, int, boolA, Int.cast_ofNat_Int, Int.natCast_zero, Int.natCast_one, Int.ofNat_one, Int.ofNat_zero, Int.toNat_zero, Int.toNat_one, Int.reduceToNat, ias, rsz, clIt, opI1, opI0, slA, boundsA, Option.getD_none, Option.getD_some, at0, c0, at1, c1, wr1, wr2, wr3, wr4, wr5, Int.reduceAdd, Int.reduceSub])
  simp only [↓vp, vq0, vq1, vq2, vq3, vr0, vr1, vr2, vr3, vr4, vr5, vr6, vr7, vr8, vr9, vr10, vr11, vr12, vr13, vr14, vr15, vr16, vr17, vr18, vr19, vr20, vr21, vr22, vr23, vr24, vr25, vr26, vr27, vr28, vr29, vr30, vr31, vr32, vr33, vr34, opS, fpS, okP, pack, nAl, allocA, shId, leaves, fillA, fillR, splice, Nat.reduceLT, Nat.reduceEqDiff, Nat.reduceLeDiff, Nat.reduceAdd, Nat.reduceSub, Nat.reduceMul, Int.reduceBEq, Int.reduceBNe, Int.reduceLT, Int.reduceLE, Int.reduceEq, reduceIte, reduceCtorEq, da, int, boolA, RetP_go, resT, resC, resN, retV1, retV2, retV3, retV0, frzFZ, takeM, Option.some.injEq]
  rfl
theorem k26 {K : Heap} {L : List Blk} {Q : AV → Heap → Prop} : KW ft (.fn (.func 26) [] []) [encI [aItem, bItem], int 1, int 2] (hx K L) Q ↔ Q (.tup [encL two, int 4]) (hx K L) := KW_of (s26 _)
theorem two_ok : okL two := by
  refine ⟨by decide, fun x hx => ?_⟩
  have hb : ∀ b : Bytes, b = [97] ∨ b = [98] ∨ b = [] → okB b := fun b h => by rcases h with rfl | rfl | rfl <;> exact ⟨by decide, rfl⟩
  simp only [two, List.mem_cons, List.not_mem_nil, or_false] at hx
  rcases hx with rfl | rfl | rfl
  · exact ⟨⟨by decide, fun y hy => by simp at hy; subst hy; exact ⟨hb _ (.inl rfl), hb _ (.inr (.inr rfl))⟩⟩, ⟨by decide, by simp⟩⟩
  · exact ⟨⟨by decide, fun y hy => by simp at hy; subst hy; exact ⟨hb _ (.inr (.inl rfl)), hb _ (.inr (.inr rfl))⟩⟩, ⟨by decide, by simp⟩⟩
  · exact ⟨⟨by decide, by simp⟩, ⟨by decide, fun y hy => by simp at hy; rcases hy with rfl | rfl; exact hb _ (.inr (.inr rfl)); exact hb _ (.inr (.inl rfl))⟩⟩
theorem two_tiny : tinyL two := fun x hx => by
  simp only [two, List.mem_cons, List.not_mem_nil, or_false] at hx
  rcases hx with rfl | rfl | rfl <;> decide
theorem two_all : allM two 4 = (⟨[aItem, bItem], [4, 2, 3], 2⟩, 0) := by rfl
theorem two_get : getM two 4 [98] = (bItem, true, 0) := by rfl
theorem two_not : getM two 4 [99] = (noItem, false, 0) := by rfl
theorem two_path : ∃ s, wayM (pathK [98]) two 4 = ([⟨4, ⟨false, [], [⟨[], 2⟩, ⟨[98], 3⟩]⟩, 1⟩, s], 0) := ⟨_, by rfl⟩
theorem two_edge : ∃ s, wayM (edgeK false) two 4 = ([s, ⟨2, ⟨true, [aItem], []⟩, 0⟩], 0) := ⟨_, by rfl⟩
end Go.VI

/- VI, part SU: alive. -/
set_option linter.unusedVariables false
set_option linter.unusedSimpArgs false
set_option maxRecDepth 100000
namespace Go.VI
attribute [local congr] AW_congr OW_congr DW_congr NW_congr VW_congr GW_congr PW_congr KW_congr ite_congr' GV_congr CV_congr

/-- A call that freezes what it gets. -/
theorem callL_fz {ft : FT} {k : FuncId} {n : Nat} {rs : List ARes} {body : ACode} {as bs : List AV} {H H1 : Heap} (hk : ft k = some (.go true n rs body)) (h : frzCells H as = some (bs, H1)) (h' : frzCells H1 bs = some (bs, H1)) :
    callL ft (.fn (.func k) [] []) as H = callL ft (.fn (.func k) [] []) bs H1 := by
  rw [callL_fn, callL_fn]
  simp only [List.nil_append, List.append_nil]
  unfold callF
  simp only [hk, h, h']
theorem KW_eq {ft : FT} {f : AV} {as bs : List AV} {H H1 : Heap} {Q : AV → Heap → Prop} (h : callL ft f as H = callL ft f bs H1) : KW ft f as H Q ↔ KW ft f bs H1 Q := by
  unfold KW
  rw [h]
theorem fz_sl1 {H : Heap} {id len sz : Nat} {rows : List (List AV)} (h : H.get id = some (.row false sz rows)) (hl : rows.length = len) (n : Nat) : frz (n + 1) H (.sl id 0 len) = some (.lst rows, H.set id (.row true sz rows)) := by
  subst hl
  rw [frz_sl, h]
  simp
theorem fz_src (H : Heap) (l : List NamedM) (n : Nat) : frz (n + 4) H (srcF l) = some (srcF l, H) := rfl
theorem x16 {l : List NamedM} {root : Int} {K : Heap} {L : List Blk} {id : Nat} {b : Int} {Q : AV → Heap → Prop} (h : (hx K L).get id = some (.row false 1 [[.sc (.int .u8 b)]])) :
    KW ft (.fn (.func 16) [] []) [srcF l, .sc (.int .i64 root), .sl id 0 1] (hx K L) Q ↔ KW ft (.fn (.func 16) [] []) [srcF l, .sc (.int .i64 root), encB [b]] ((hx K L).set id (.row true 1 [[.sc (.int .u8 b)]])) Q :=
  KW_eq (callL_fz rfl (by simp only [frzCells_eq, frzL_cons, frzL_nil, fz_src, frz_int, fz_sl1 (len := 1) h rfl, Option.bind_some]; rfl) rfl)
theorem x24 {l : List NamedM} {root : Int} {K : Heap} {L : List Blk} {id : Nat} {b : Int} {Q : AV → Heap → Prop} (h : (hx K L).get id = some (.row false 1 [[.sc (.int .u8 b)]])) :
    KW ft (.fn (.func 24) [] []) [srcF l, .sc (.int .i64 root), .sl id 0 1] (hx K L) Q ↔ KW ft (.fn (.func 24) [] []) [srcF l, .sc (.int .i64 root), encB [b]] ((hx K L).set id (.row true 1 [[.sc (.int .u8 b)]])) Q :=
  KW_eq (callL_fz rfl (by simp only [frzCells_eq, frzL_cons, frzL_nil, fz_src, frz_int, fz_sl1 (len := 1) h rfl, Option.bind_some]; rfl) rfl)
theorem x26 {K : Heap} {L : List Blk} {id : Nat} {Q : AV → Heap → Prop} (h : (hx K L).get id = some (.row false 4 [[.lst [[.sc (.int .u8 97)]], .lst [], .sc (.int .i64 0), .sc (.int .i64 0)], [.lst [[.sc (.int .u8 98)]], .lst [], .sc (.int .i64 0), .sc (.int .i64 0)]])) :
    KW ft (.fn (.func 26) [] []) [.sl id 0 2, .sc (.int .i64 1), .sc (.int .i64 2)] (hx K L) Q ↔ Q (.tup [encL two, int 4]) ((hx K L).set id (.row true 4 [itemC aItem, itemC bItem])) :=
  (KW_eq (callL_fz (bs := [encI [aItem, bItem], int 1, int 2]) rfl (by simp only [frzCells_eq, frzL_cons, frzL_nil, frz_int, fz_sl1 (len := 2) h rfl, Option.bind_some]; rfl) rfl)).trans (KW_of (s26 _))
theorem y16 {K : Heap} {L : List Blk} {Q : AV → Heap → Prop} {P : List StepM × Int} (hP : wayM (pathK [98]) two 4 = P) : KW ft (.fn (.func 16) [] []) [srcF two, .sc (.int .i64 4), encB [98]] (hx K L) Q ↔ Q (.tup [encS P.1, int P.2]) (hx K L) := by
  subst hP
  exact k16 two_ok two_tiny ⟨by decide, rfl⟩
theorem y24 {K : Heap} {L : List Blk} {Q : AV → Heap → Prop} : KW ft (.fn (.func 24) [] []) [srcF two, .sc (.int .i64 4), encB [98]] (hx K L) Q ↔ Q (.tup [.agg (itemC bItem), boolA true, int 0]) (hx K L) :=
  KW_of ((s24 two two_ok two_tiny 4 [98] ⟨by decide, rfl⟩ _).trans (by rw [two_get]))
theorem y24n {K : Heap} {L : List Blk} {Q : AV → Heap → Prop} : KW ft (.fn (.func 24) [] []) [srcF two, .sc (.int .i64 4), encB [99]] (hx K L) Q ↔ Q (.tup [.agg (itemC noItem), boolA false, int 0]) (hx K L) :=
  KW_of ((s24 two two_ok two_tiny 4 [99] ⟨by decide, rfl⟩ _).trans (by rw [two_not]))
theorem y21 {K : Heap} {L : List Blk} {Q : AV → Heap → Prop} : KW ft (.fn (.func 21) [] []) [srcF two, .sc (.int .i64 4)] (hx K L) Q ↔ Q (.tup [.agg [encI [aItem, bItem], encN [4, 2, 3], int 2], int 0]) (hx K L) :=
  KW_of ((s21 two two_ok two_tiny (by decide) 4 _).trans (by rw [two_all]; rfl))
theorem y21n {K : Heap} {L : List Blk} {Q : AV → Heap → Prop} : KW ft (.fn (.func 21) [] []) [.sc .nilFunc, .sc (.int .i64 4)] (hx K L) Q ↔ Q (.tup [.agg [encI [], encN [], int 0], int 1]) (hx K L) := KW_of (s21n 4 _)
theorem y19 {K : Heap} {L : List Blk} {Q : AV → Heap → Prop} {P : List StepM × Int} (hP : wayM (edgeK false) two 4 = P) : KW ft (.fn (.func 19) [] []) [srcF two, .sc (.int .i64 4), .sc (.bool false)] (hx K L) Q ↔ Q (.tup [encS P.1, int P.2]) (hx K L) := by
  subst hP
  exact k19 two_ok two_tiny
theorem lenN (H : Heap) (l : List Int) : lenV H 0 (encN l) = some (.sc (.int .i64 (l.length : Int)), H) := by simp [lenV, lenOfA, encN]
theorem at0N (H : Heap) (x : Int) (l : List Int) : iaddrA H none 1 (encN (x :: l)) 0 = some (.pim (intC x :: l.map intC) 0 0) := rfl
theorem c0N (H : Heap) (x : Int) (l : List (List AV)) : cellsAt H (.pim (intC x :: l) 0 0) 1 = some [.sc (.int .i64 x)] := rfl
theorem one_N (l : List Int) : (encN l).one = true := rfl
theorem cs_N (l : List Int) : (encN l).cells = [encN l] := rfl
theorem s14 (H : Heap) : callL ft (.fn (.func 14) [] []) [] H = some (boolA true, H) := by
  refine call_p (as' := []) rfl rfl (by simp) ?_
  obtain ⟨sp, hp⟩ := two_path
  obtain ⟨se, he⟩ := two_edge
  have a0 := fun H => atS (l := [⟨4, ⟨false, [], [⟨[], 2⟩, ⟨[98], 3⟩]⟩, 1⟩, sp]) (i := 0) (H := H) (by simp)
  have a1 := fun H => atS (l := [se, ⟨2, ⟨true, [aItem], []⟩, 0⟩]) (i := 1) (H := H) (by simp)
  have b0 := fun H off n => cS (l := [⟨4, ⟨false, [], [⟨[], 2⟩, ⟨[98], 3⟩]⟩, 1⟩, sp]) (i := 0) (H := H) (off := off) (n := n) (by simp)
  have b1 := fun H off n => cS (l := [se, ⟨2, ⟨true, [aItem], []⟩, 0⟩]) (i := 1) (H := H) (off := off) (n := n) (by simp)
  simp only [Int.cast_ofNat_Int, Int.natCast_zero, Int.natCast_one, List.map_cons, List.map_nil, List.getElem_cons_zero, List.getElem_cons_succ] at a0 a1 b0 b1
  have rB : ∀ H, rowsOf H (encB bItem.key) = some [[.sc (.int .u8 98)]] := fun _ => rfl
  have bR : bytesOfRows [[.sc (.int .u8 98)]] = some [98] := rfl
  have sE : binA .eql 9 (.sc (.string (strOfNums [98]))) (.sc (.string ⟨#[98]⟩)) = some (.sc (.bool true)) := by
    have h : strOfNums [98] = ⟨#[98]⟩ := by simp [strOfNums]
    rw [h]
    simp [binA, binOp, Op.stringOp, pureRun, ofScalar, isSc, pure]
  unfold c14 r14
  simp only [↓vp, vq0, vq1, vq2, vq3, vr0, vr1, vr2, vr3, vr4, vr5, vr6, vr7, vr8, vr9, vr10, vr11, vr12, vr13, vr14, vr15, vr16, vr17, vr18, vr19, vr20, vr21, vr22, vr23, vr24, vr25, vr26, vr27, vr28, vr29, vr30, vr31, vr32, vr33, vr34, opS, fpS, okP, pack, nAl, allocA, shId, leaves, fillA, fillR, splice, Nat.reduceLT, Nat.reduceEqDiff, Nat.reduceLeDiff, Nat.reduceAdd, Nat.reduceSub, Nat.reduceMul, Int.reduceBEq, Int.reduceBNe, Int.reduceLT, Int.reduceLE, Int.reduceEq, reduceIte, reduceCtorEq, da, int, boolA, RetP_go, resT, resC, resN, retV1, retV2, retV3, retV0, frzFZ, takeM, Option.some.injEq, clIt, rsz, x16 (b := 98), x24 (b := 98), x24 (b := 99), x26, y16 hp, y24, y24n, y21, y21n, y19 he, k17, lenN, at0N, c0N, one_N, cs_N, rB, bR, sE, a0, a1, b0, b1, Int.cast_ofNat_Int, Int.natCast_zero, Int.natCast_one, Int.ofNat_one, Int.ofNat_zero]
theorem alive14 : Alive 14 := fun K L Q => KW_of (s14 _)
theorem t3 (l : List NamedM) (hl : okL l) (root : Int) (key : Bytes) (hk : okB key) (H : Heap) : callL ft (.fn (.func 3) [] []) [encL l, int root, encB key] H = some (boolA true, H) := s3 alive14 l hl root key hk H
end Go.VI

