/- VI, part SD: the program's node of the document's, and the other way round. -/
import Derived.Test.YtkjeigdiojdfnaaSC
set_option linter.unusedVariables false
set_option linter.unusedSimpArgs false
set_option maxRecDepth 100000
namespace Go.VI
attribute [local congr] AW_congr OW_congr DW_congr NW_congr VW_congr GW_congr PW_congr KW_congr ite_congr' GV_congr CV_congr

theorem l47a (n : NodeM) (hs : n.items.length ≤ 1000) {B0 B1 : Blk} (hn0 : ∀ s r, B0 ≠ .row false s r) (hn1 : ∀ s r, B1 ≠ .row false s r) {Q : AExit → Env → Heap → Prop}
   (hex : ∀ f' K S, Rep K 4 S (n.items.map itemC) → K.get 0 = some B0 → K.get 1 = some B1 → K.get 2 = some (.box false [boolA n.leaf, S, .sc (.slice none 0 0)]) → f' 1 = .ptr 0 0 0 → f' 2 = .ptr 1 0 0 → f' 3 = .ptr 2 0 0 → Q (.exit 0) (mkE 40 f') (hx K [])) :
   ∀ (d i : Nat) (S : AV) (K : Heap) (f : Nat → AV), i + d = n.items.length → Rep K 4 S ((n.items.take i).map itemC) → K.get 0 = some B0 → K.get 1 = some B1 → K.get 2 = some (.box false [boolA n.leaf, S, .sc (.slice none 0 0)]) →
    f 1 = .ptr 0 0 0 → f 2 = .ptr 1 0 0 → f 3 = .ptr 2 0 0 → f 12 = encI n.items → f 13 = int n.items.length → f 14 = int i →
    AW ft (.loop c47L0) (mkE 40 f) (hx K []) Q := by
  intro d
  induction d with
  | zero =>
    intro i S K f hd hr k0 k1 k2 h1 h2 h3 h12 h13 h14
    have g : ((i : Int) < n.items.length) = False := by simp; omega
    rw [AW_loop]
    unfold c47L0
    rw [List.take_of_length_le (by omega)] at hr
    simp only [↓vp, vq0, vq1, vq2, vq3, vr0, vr1, vr2, vr3, vr4, vr5, vr6, vr7, vr8, vr9, vr10, vr11, vr12, vr13, vr14, vr15, vr16, vr17, vr18, vr19, vr20, vr21, vr22, vr23, vr24, vr25, vr26, vr27, vr28, vr29, vr30, vr31, vr32, vr33, vr34, opS, fpS, okP, pack, nAl, allocA, shId, leaves, fillA, fillR, splice, Nat.reduceLT, Nat.reduceEqDiff, Nat.reduceLeDiff, Nat.reduceAdd, Nat.reduceSub, Nat.reduceMul, Int.reduceBEq, Int.reduceBNe, Int.reduceLT, Int.reduceLE, Int.reduceEq, reduceIte, reduceCtorEq, da, int, boolA, h13, h14, g]
    refine hex _ K S hr k0 k1 k2 ?_ ?_ ?_ <;> simp only [↓vp, vq0, vq1, vq2, vq3, vr0, vr1, vr2, vr3, vr4, vr5, vr6, vr7, vr8, vr9, vr10, vr11, vr12, vr13, vr14, vr15, vr16, vr17, vr18, vr19, vr20, vr21, vr22, vr23, vr24, vr25, vr26, vr27, vr28, vr29, vr30, vr31, vr32, vr33, vr34, opS, fpS, okP, pack, nAl, allocA, shId, leaves, fillA, fillR, splice, Nat.reduceLT, Nat.reduceEqDiff, Nat.reduceLeDiff, Nat.reduceAdd, Nat.reduceSub, Nat.reduceMul, Int.reduceBEq, Int.reduceBNe, Int.reduceLT, Int.reduceLE, Int.reduceEq, reduceIte, reduceCtorEq, da, int, boolA, h1, h2, h3]
  | succ d ih =>
    intro i S K f hd hr k0 k1 k2 h1 h2 h3 h12 h13 h14
    have g : ((i : Int) < n.items.length) = True := by simp; omega
    have gi : i < n.items.length := by omega
    have w1 := wrap_succ (show i < 9223372036854775807 by omega)
    have l0 := Heap.get_lt k0
    have l1 := Heap.get_lt k1
    have l2 := Heap.get_lt k2
    have o0 := fun L => hx_get_old K L 0 l0
    have o1 := fun L => hx_get_old K L 1 l1
    have o2 := fun L => hx_get_old K L 2 l2
    have p2 := fun L b => hx_set_old K L b 2 l2
    have ht : (n.items.take (i + 1)).map itemC = (n.items.take i).map itemC ++ [itemC n.items[i]] := by
      rw [List.take_succ_eq_append_getElem gi, List.map_append]; rfl
    rw [AW_loop]
    unfold c47L0
    rcases hr with ⟨rfl, hr⟩ | ⟨id, rfl, hr⟩
    · simp only [↓vp, vq0, vq1, vq2, vq3, vr0, vr1, vr2, vr3, vr4, vr5, vr6, vr7, vr8, vr9, vr10, vr11, vr12, vr13, vr14, vr15, vr16, vr17, vr18, vr19, vr20, vr21, vr22, vr23, vr24, vr25, vr26, vr27, vr28, vr29, vr30, vr31, vr32, vr33, vr34, opS, fpS, okP, pack, nAl, allocA, shId, leaves, fillA, fillR, splice, Nat.reduceLT, Nat.reduceEqDiff, Nat.reduceLeDiff, Nat.reduceAdd, Nat.reduceSub, Nat.reduceMul, Int.reduceBEq, Int.reduceBNe, Int.reduceLT, Int.reduceLE, Int.reduceEq, reduceIte, reduceCtorEq, da, int, boolA, h1, h2, h3, h12, h13, h14, g, atI gi, cI gi, k2, o2, p2, w1]
      rw [← hx_nil (hx _ _)]
      have q0 : ∀ (j : Nat) (b : Blk) (L : List Blk), j ≠ 2 → j < K.next → (hx (K.set 2 b) L).get j = K.get j := fun j b L hj hl => by
        rw [hx_get_old _ _ _ (by simpa using hl), Heap.get_set_ne _ hj]
      have q2 : ∀ (b : Blk) (L : List Blk), (hx (K.set 2 b) L).get 2 = some b := fun b L => by
        rw [hx_get_old _ _ _ (by simpa using l2), Heap.get_set_self _ l2]
      refine ih (i + 1) (.sl (K.next + 2) 0 1) _ _ (by omega) (.inr ⟨K.next + 2, ?_, ?_⟩) ?_ ?_ ?_ ?_ ?_ ?_ ?_ ?_ ?_
      · rw [ht, hr]; rfl
      · rw [ht, hr]
        simp only [↓vp, vq0, vq1, vq2, vq3, vr0, vr1, vr2, vr3, vr4, vr5, vr6, vr7, vr8, vr9, vr10, vr11, vr12, vr13, vr14, vr15, vr16, vr17, vr18, vr19, vr20, vr21, vr22, vr23, vr24, vr25, vr26, vr27, vr28, vr29, vr30, vr31, vr32, vr33, vr34, opS, fpS, okP, pack, nAl, allocA, shId, leaves, fillA, fillR, splice, Nat.reduceLT, Nat.reduceEqDiff, Nat.reduceLeDiff, Nat.reduceAdd, Nat.reduceSub, Nat.reduceMul, Int.reduceBEq, Int.reduceBNe, Int.reduceLT, Int.reduceLE, Int.reduceEq, reduceIte, reduceCtorEq]
      · rw [q0 _ _ _ (by decide) l0]; exact k0
      · rw [q0 _ _ _ (by decide) l1]; exact k1
      · rw [q2]; rfl
      all_goals simp only [↓vp, vq0, vq1, vq2, vq3, vr0, vr1, vr2, vr3, vr4, vr5, vr6, vr7, vr8, vr9, vr10, vr11, vr12, vr13, vr14, vr15, vr16, vr17, vr18, vr19, vr20, vr21, vr22, vr23, vr24, vr25, vr26, vr27, vr28, vr29, vr30, vr31, vr32, vr33, vr34, opS, fpS, okP, pack, nAl, allocA, shId, leaves, fillA, fillR, splice, Nat.reduceLT, Nat.reduceEqDiff, Nat.reduceLeDiff, Nat.reduceAdd, Nat.reduceSub, Nat.reduceMul, Int.reduceBEq, Int.reduceBNe, Int.reduceLT, Int.reduceLE, Int.reduceEq, reduceIte, reduceCtorEq, da, int, boolA, h1, h2, h3, h12, h13]
    · have lid := Heap.get_lt hr
      have d0 : 0 ≠ id := fun e => by subst e; rw [k0] at hr; exact hn0 _ _ (Option.some.inj hr)
      have d1 : 1 ≠ id := fun e => by subst e; rw [k1] at hr; exact hn1 _ _ (Option.some.inj hr)
      have d2 : 2 ≠ id := fun e => by subst e; rw [k2] at hr; cases hr
      have oid := fun L => hx_get_old K L id lid
      have pid := fun L b => hx_set_old K L b id lid
      have o2' : ∀ (L : List Blk) (b : Blk), (hx (K.set id b) L).get 2 = K.get 2 := fun L b => by
        rw [hx_get_old _ _ _ (by simpa using l2), Heap.get_set_ne _ d2]
      have p2' : ∀ (L : List Blk) (b c : Blk), (hx (K.set id b) L).set 2 c = hx ((K.set id b).set 2 c) L := fun L b c => hx_set_old _ L c 2 (by simpa using l2)
      have hlen : ((n.items.take i).map itemC).length = i := by simp; omega
      have hb : (i + 1) * 64 ≤ 140737488355328 := by omega
      have hr' := hr
      simp only [↓vp, vq0, vq1, vq2, vq3, vr0, vr1, vr2, vr3, vr4, vr5, vr6, vr7, vr8, vr9, vr10, vr11, vr12, vr13, vr14, vr15, vr16, vr17, vr18, vr19, vr20, vr21, vr22, vr23, vr24, vr25, vr26, vr27, vr28, vr29, vr30, vr31, vr32, vr33, vr34, opS, fpS, okP, pack, nAl, allocA, shId, leaves, fillA, fillR, splice, Nat.reduceLT, Nat.reduceEqDiff, Nat.reduceLeDiff, Nat.reduceAdd, Nat.reduceSub, Nat.reduceMul, Int.reduceBEq, Int.reduceBNe, Int.reduceLT, Int.reduceLE, Int.reduceEq, reduceIte, reduceCtorEq, da, int, boolA, h1, h2, h3, h12, h13, h14, g, atI gi, cI gi, k2, o2, p2, w1, oid, pid, o2', p2', hr, hlen, hb, List.take_of_length_le (Nat.le_of_eq hlen), List.length_take]
      rw [← hx_nil (hx _ _)]
      have q0 : ∀ (j : Nat) (b c : Blk) (L : List Blk), j ≠ 2 → j ≠ id → j < K.next → (hx ((K.set id c).set 2 b) L).get j = K.get j := fun j b c L hj hj2 hl => by
        rw [hx_get_old _ _ _ (by simpa using hl), Heap.get_set_ne _ hj, Heap.get_set_ne _ hj2]
      have q2 : ∀ (b c : Blk) (L : List Blk), (hx ((K.set id c).set 2 b) L).get 2 = some b := fun b c L => by
        rw [hx_get_old _ _ _ (by simpa using l2), Heap.get_set_self _ (by simpa using l2)]
      refine ih (i + 1) (.sl (K.next + 2) 0 (i + 1)) _ _ (by omega) (.inr ⟨K.next + 2, ?_, ?_⟩) ?_ ?_ ?_ ?_ ?_ ?_ ?_ ?_ ?_
      · rw [ht, List.length_append, hlen]; rfl
      · rw [ht]
        simp only [↓vp, vq0, vq1, vq2, vq3, vr0, vr1, vr2, vr3, vr4, vr5, vr6, vr7, vr8, vr9, vr10, vr11, vr12, vr13, vr14, vr15, vr16, vr17, vr18, vr19, vr20, vr21, vr22, vr23, vr24, vr25, vr26, vr27, vr28, vr29, vr30, vr31, vr32, vr33, vr34, opS, fpS, okP, pack, nAl, allocA, shId, leaves, fillA, fillR, splice, Nat.reduceLT, Nat.reduceEqDiff, Nat.reduceLeDiff, Nat.reduceAdd, Nat.reduceSub, Nat.reduceMul, Int.reduceBEq, Int.reduceBNe, Int.reduceLT, Int.reduceLE, Int.reduceEq, reduceIte, reduceCtorEq]
      · rw [q0 _ _ _ _ (by decide) d0 l0]; exact k0
      · rw [q0 _ _ _ _ (by decide) d1 l1]; exact k1
      · rw [q2]; rfl
      all_goals simp only [↓vp, vq0, vq1, vq2, vq3, vr0, vr1, vr2, vr3, vr4, vr5, vr6, vr7, vr8, vr9, vr10, vr11, vr12, vr13, vr14, vr15, vr16, vr17, vr18, vr19, vr20, vr21, vr22, vr23, vr24, vr25, vr26, vr27, vr28, vr29, vr30, vr31, vr32, vr33, vr34, opS, fpS, okP, pack, nAl, allocA, shId, leaves, fillA, fillR, splice, Nat.reduceLT, Nat.reduceEqDiff, Nat.reduceLeDiff, Nat.reduceAdd, Nat.reduceSub, Nat.reduceMul, Int.reduceBEq, Int.reduceBNe, Int.reduceLT, Int.reduceLE, Int.reduceEq, reduceIte, reduceCtorEq, da, int, boolA, h1, h2, h3, h12, h13]
theorem l47b (n : NodeM) (hs : n.kids.length ≤ 1000) {B0 B1 : Blk} (hn0 : ∀ s r, B0 ≠ .row false s r) (hn1 : ∀ s r, B1 ≠ .row false s r) {S : AV} {rows : List (List AV)} {Q : AExit → Env → Heap → Prop}
   (hex : ∀ f' K T, Rep K 2 T (n.kids.map kidC) → Rep K 4 S rows → K.get 0 = some B0 → K.get 1 = some B1 → K.get 2 = some (.box false [boolA n.leaf, S, T]) → f' 1 = .ptr 0 0 0 → f' 2 = .ptr 1 0 0 → f' 3 = .ptr 2 0 0 → Q (.exit 2) (mkE 40 f') (hx K [])) :
   ∀ (d i : Nat) (T : AV) (K : Heap) (f : Nat → AV), i + d = n.kids.length → Rep K 2 T ((n.kids.take i).map kidC) → Rep K 4 S rows → K.get 0 = some B0 → K.get 1 = some B1 → K.get 2 = some (.box false [boolA n.leaf, S, T]) →
    f 1 = .ptr 0 0 0 → f 2 = .ptr 1 0 0 → f 3 = .ptr 2 0 0 → f 26 = encK n.kids → f 27 = int n.kids.length → f 28 = int i →
    AW ft (.loop c47L1) (mkE 40 f) (hx K []) Q := by
  intro d
  induction d with
  | zero =>
    intro i T K f hd hr hrS k0 k1 k2 h1 h2 h3 h26 h27 h28
    have g : ((i : Int) < n.kids.length) = False := by simp; omega
    rw [AW_loop]
    unfold c47L1
    rw [List.take_of_length_le (by omega)] at hr
    simp only [↓vp, vq0, vq1, vq2, vq3, vr0, vr1, vr2, vr3, vr4, vr5, vr6, vr7, vr8, vr9, vr10, vr11, vr12, vr13, vr14, vr15, vr16, vr17, vr18, vr19, vr20, vr21, vr22, vr23, vr24, vr25, vr26, vr27, vr28, vr29, vr30, vr31, vr32, vr33, vr34, opS, fpS, okP, pack, nAl, allocA, shId, leaves, fillA, fillR, splice, Nat.reduceLT, Nat.reduceEqDiff, Nat.reduceLeDiff, Nat.reduceAdd, Nat.reduceSub, Nat.reduceMul, Int.reduceBEq, Int.reduceBNe, Int.reduceLT, Int.reduceLE, Int.reduceEq, reduceIte, reduceCtorEq, da, int, boolA, h27, h28, g]
    refine hex _ K T hr hrS k0 k1 k2 ?_ ?_ ?_ <;> simp only [↓vp, vq0, vq1, vq2, vq3, vr0, vr1, vr2, vr3, vr4, vr5, vr6, vr7, vr8, vr9, vr10, vr11, vr12, vr13, vr14, vr15, vr16, vr17, vr18, vr19, vr20, vr21, vr22, vr23, vr24, vr25, vr26, vr27, vr28, vr29, vr30, vr31, vr32, vr33, vr34, opS, fpS, okP, pack, nAl, allocA, shId, leaves, fillA, fillR, splice, Nat.reduceLT, Nat.reduceEqDiff, Nat.reduceLeDiff, Nat.reduceAdd, Nat.reduceSub, Nat.reduceMul, Int.reduceBEq, Int.reduceBNe, Int.reduceLT, Int.reduceLE, Int.reduceEq, reduceIte, reduceCtorEq, da, int, boolA, h1, h2, h3]
  | succ d ih =>
    intro i T K f hd hr hrS k0 k1 k2 h1 h2 h3 h26 h27 h28
    have g : ((i : Int) < n.kids.length) = True := by simp; omega
    have gi : i < n.kids.length := by omega
    have w1 := wrap_succ (show i < 9223372036854775807 by omega)
    have l0 := Heap.get_lt k0
    have l1 := Heap.get_lt k1
    have l2 := Heap.get_lt k2
    have o0 := fun L => hx_get_old K L 0 l0
    have o1 := fun L => hx_get_old K L 1 l1
    have o2 := fun L => hx_get_old K L 2 l2
    have p2 := fun L b => hx_set_old K L b 2 l2
    have ht : (n.kids.take (i + 1)).map kidC = (n.kids.take i).map kidC ++ [kidC n.kids[i]] := by
      rw [List.take_succ_eq_append_getElem gi, List.map_append]; rfl
    rw [AW_loop]
    unfold c47L1
    rcases hr with ⟨rfl, hr⟩ | ⟨id, rfl, hr⟩
    · simp only [↓vp, vq0, vq1, vq2, vq3, vr0, vr1, vr2, vr3, vr4, vr5, vr6, vr7, vr8, vr9, vr10, vr11, vr12, vr13, vr14, vr15, vr16, vr17, vr18, vr19, vr20, vr21, vr22, vr23, vr24, vr25, vr26, vr27, vr28, vr29, vr30, vr31, vr32, vr33, vr34, opS, fpS, okP, pack, nAl, allocA, shId, leaves, fillA, fillR, splice, Nat.reduceLT, Nat.reduceEqDiff, Nat.reduceLeDiff, Nat.reduceAdd, Nat.reduceSub, Nat.reduceMul, Int.reduceBEq, Int.reduceBNe, Int.reduceLT, Int.reduceLE, Int.reduceEq, reduceIte, reduceCtorEq, da, int, boolA, h1, h2, h3, h26, h27, h28, g, atK gi, cK gi, k2, o2, p2, w1]
      rw [← hx_nil (hx _ _)]
      have q0 : ∀ (j : Nat) (b : Blk) (L : List Blk), j ≠ 2 → j < K.next → (hx (K.set 2 b) L).get j = K.get j := fun j b L hj hl => by
        rw [hx_get_old _ _ _ (by simpa using hl), Heap.get_set_ne _ hj]
      have q2 : ∀ (b : Blk) (L : List Blk), (hx (K.set 2 b) L).get 2 = some b := fun b L => by
        rw [hx_get_old _ _ _ (by simpa using l2), Heap.get_set_self _ l2]
      have hS : Rep (hx (K.set 2 (.box false [boolA n.leaf, S, .sl (K.next + 2) 0 1])) [.box false (kidC n.kids[i]), .row false 2 [kidC n.kids[i]], .row false 2 [kidC n.kids[i]]]) 4 S rows := hrS.mono fun j hj => by
        rw [q0 _ _ _ (fun e => by subst e; rw [k2] at hj; cases hj) (Heap.get_lt hj)]
        exact hj
      refine ih (i + 1) (.sl (K.next + 2) 0 1) _ _ (by omega) (.inr ⟨K.next + 2, ?_, ?_⟩) hS ?_ ?_ ?_ ?_ ?_ ?_ ?_ ?_ ?_
      · rw [ht, hr]; rfl
      · rw [ht, hr]
        simp only [↓vp, vq0, vq1, vq2, vq3, vr0, vr1, vr2, vr3, vr4, vr5, vr6, vr7, vr8, vr9, vr10, vr11, vr12, vr13, vr14, vr15, vr16, vr17, vr18, vr19, vr20, vr21, vr22, vr23, vr24, vr25, vr26, vr27, vr28, vr29, vr30, vr31, vr32, vr33, vr34, opS, fpS, okP, pack, nAl, allocA, shId, leaves, fillA, fillR, splice, Nat.reduceLT, Nat.reduceEqDiff, Nat.reduceLeDiff, Nat.reduceAdd, Nat.reduceSub, Nat.reduceMul, Int.reduceBEq, Int.reduceBNe, Int.reduceLT, Int.reduceLE, Int.reduceEq, reduceIte, reduceCtorEq]
      · rw [q0 _ _ _ (by decide) l0]; exact k0
      · rw [q0 _ _ _ (by decide) l1]; exact k1
      · rw [q2]; rfl
      all_goals simp only [↓vp, vq0, vq1, vq2, vq3, vr0, vr1, vr2, vr3, vr4, vr5, vr6, vr7, vr8, vr9, vr10, vr11, vr12, vr13, vr14, vr15, vr16, vr17, vr18, vr19, vr20, vr21, vr22, vr23, vr24, vr25, vr26, vr27, vr28, vr29, vr30, vr31, vr32, vr33, vr34, opS, fpS, okP, pack, nAl, allocA, shId, leaves, fillA, fillR, splice, Nat.reduceLT, Nat.reduceEqDiff, Nat.reduceLeDiff, Nat.reduceAdd, Nat.reduceSub, Nat.reduceMul, Int.reduceBEq, Int.reduceBNe, Int.reduceLT, Int.reduceLE, Int.reduceEq, reduceIte, reduceCtorEq, da, int, boolA, h1, h2, h3, h26, h27]
    · have lid := Heap.get_lt hr
      have d0 : 0 ≠ id := fun e => by subst e; rw [k0] at hr; exact hn0 _ _ (Option.some.inj hr)
      have d1 : 1 ≠ id := fun e => by subst e; rw [k1] at hr; exact hn1 _ _ (Option.some.inj hr)
      have d2 : 2 ≠ id := fun e => by subst e; rw [k2] at hr; cases hr
      have oid := fun L => hx_get_old K L id lid
      have pid := fun L b => hx_set_old K L b id lid
      have o2' : ∀ (L : List Blk) (b : Blk), (hx (K.set id b) L).get 2 = K.get 2 := fun L b => by
        rw [hx_get_old _ _ _ (by simpa using l2), Heap.get_set_ne _ d2]
      have p2' : ∀ (L : List Blk) (b c : Blk), (hx (K.set id b) L).set 2 c = hx ((K.set id b).set 2 c) L := fun L b c => hx_set_old _ L c 2 (by simpa using l2)
      have hlen : ((n.kids.take i).map kidC).length = i := by simp; omega
      have hb : (i + 1) * 32 ≤ 140737488355328 := by omega
      have hr' := hr
      simp only [↓vp, vq0, vq1, vq2, vq3, vr0, vr1, vr2, vr3, vr4, vr5, vr6, vr7, vr8, vr9, vr10, vr11, vr12, vr13, vr14, vr15, vr16, vr17, vr18, vr19, vr20, vr21, vr22, vr23, vr24, vr25, vr26, vr27, vr28, vr29, vr30, vr31, vr32, vr33, vr34, opS, fpS, okP, pack, nAl, allocA, shId, leaves, fillA, fillR, splice, Nat.reduceLT, Nat.reduceEqDiff, Nat.reduceLeDiff, Nat.reduceAdd, Nat.reduceSub, Nat.reduceMul, Int.reduceBEq, Int.reduceBNe, Int.reduceLT, Int.reduceLE, Int.reduceEq, reduceIte, reduceCtorEq, da, int, boolA, h1, h2, h3, h26, h27, h28, g, atK gi, cK gi, k2, o2, p2, w1, oid, pid, o2', p2', hr, hlen, hb, List.take_of_length_le (Nat.le_of_eq hlen), List.length_take]
      rw [← hx_nil (hx _ _)]
      have q0 : ∀ (j : Nat) (b c : Blk) (L : List Blk), j ≠ 2 → j ≠ id → j < K.next → (hx ((K.set id c).set 2 b) L).get j = K.get j := fun j b c L hj hj2 hl => by
        rw [hx_get_old _ _ _ (by simpa using hl), Heap.get_set_ne _ hj, Heap.get_set_ne _ hj2]
      have q2 : ∀ (b c : Blk) (L : List Blk), (hx ((K.set id c).set 2 b) L).get 2 = some b := fun b c L => by
        rw [hx_get_old _ _ _ (by simpa using l2), Heap.get_set_self _ (by simpa using l2)]
      have hS : Rep (hx ((K.set id .dead).set 2 (.box false [boolA n.leaf, S, .sl (K.next + 2) 0 (i + 1)])) [.box false (kidC n.kids[i]), .row false 2 [kidC n.kids[i]], .row false 2 ((n.kids.take i).map kidC ++ [kidC n.kids[i]])]) 4 S rows := hrS.mono fun j hj => by
        rw [q0 _ _ _ _ (fun e => by subst e; rw [k2] at hj; cases hj) (fun e => by subst e; rw [hr'] at hj; cases hj) (Heap.get_lt hj)]
        exact hj
      refine ih (i + 1) (.sl (K.next + 2) 0 (i + 1)) _ _ (by omega) (.inr ⟨K.next + 2, ?_, ?_⟩) hS ?_ ?_ ?_ ?_ ?_ ?_ ?_ ?_ ?_
      · rw [ht, List.length_append, hlen]; rfl
      · rw [ht]
        simp only [↓vp, vq0, vq1, vq2, vq3, vr0, vr1, vr2, vr3, vr4, vr5, vr6, vr7, vr8, vr9, vr10, vr11, vr12, vr13, vr14, vr15, vr16, vr17, vr18, vr19, vr20, vr21, vr22, vr23, vr24, vr25, vr26, vr27, vr28, vr29, vr30, vr31, vr32, vr33, vr34, opS, fpS, okP, pack, nAl, allocA, shId, leaves, fillA, fillR, splice, Nat.reduceLT, Nat.reduceEqDiff, Nat.reduceLeDiff, Nat.reduceAdd, Nat.reduceSub, Nat.reduceMul, Int.reduceBEq, Int.reduceBNe, Int.reduceLT, Int.reduceLE, Int.reduceEq, reduceIte, reduceCtorEq]
      · rw [q0 _ _ _ _ (by decide) d0 l0]; exact k0
      · rw [q0 _ _ _ _ (by decide) d1 l1]; exact k1
      · rw [q2]; rfl
      all_goals simp only [↓vp, vq0, vq1, vq2, vq3, vr0, vr1, vr2, vr3, vr4, vr5, vr6, vr7, vr8, vr9, vr10, vr11, vr12, vr13, vr14, vr15, vr16, vr17, vr18, vr19, vr20, vr21, vr22, vr23, vr24, vr25, vr26, vr27, vr28, vr29, vr30, vr31, vr32, vr33, vr34, opS, fpS, okP, pack, nAl, allocA, shId, leaves, fillA, fillR, splice, Nat.reduceLT, Nat.reduceEqDiff, Nat.reduceLeDiff, Nat.reduceAdd, Nat.reduceSub, Nat.reduceMul, Int.reduceBEq, Int.reduceBNe, Int.reduceLT, Int.reduceLE, Int.reduceEq, reduceIte, reduceCtorEq, da, int, boolA, h1, h2, h3, h26, h27]
theorem s47 (n : NodeM) (hs : n.items.length ≤ 1000) (hs2 : n.kids.length ≤ 1000) (H : Heap) : callL ft (.fn (.func 47) [] []) [.agg (nodeC n)] H = some (.agg (nodeC n), H) := by
  refine call_p (as' := [.agg (nodeC n)]) rfl rfl (by simp) ?_
  unfold c47 r47
  simp only [↓vp, vq0, vq1, vq2, vq3, vr0, vr1, vr2, vr3, vr4, vr5, vr6, vr7, vr8, vr9, vr10, vr11, vr12, vr13, vr14, vr15, vr16, vr17, vr18, vr19, vr20, vr21, vr22, vr23, vr24, vr25, vr26, vr27, vr28, vr29, vr30, vr31, vr32, vr33, vr34, opS, fpS, okP, pack, nAl, allocA, shId, leaves, fillA, fillR, splice, Nat.reduceLT, Nat.reduceEqDiff, Nat.reduceLeDiff, Nat.reduceAdd, Nat.reduceSub, Nat.reduceMul, Int.reduceBEq, Int.reduceBNe, Int.reduceLT, Int.reduceLE, Int.reduceEq, reduceIte, reduceCtorEq, da, int, boolA]
  rw [← hx_nil (hx _ _)]
  refine l47a n hs (B0 := .box false (nodeC n)) (B1 := .box false [.sc (.bool false), .sc (.slice none 0 0), .sc (.slice none 0 0)]) (by simp) (by simp) (fun f' K S hr k0 k1 k2 h1 h2 h3 => ?_) n.items.length 0 (.sc (.slice none 0 0)) _ _ (by omega) (.inl ⟨rfl, rfl⟩) ?_ ?_ ?_ ?_ ?_ ?_ ?_ ?_ ?_
  · unfold c47R3
    have l0 := Heap.get_lt k0
    have l1 := Heap.get_lt k1
    have l2 := Heap.get_lt k2
    have o0 := fun L => hx_get_old K L 0 l0
    have o1 := fun L => hx_get_old K L 1 l1
    have o2 := fun L => hx_get_old K L 2 l2
    simp only [↓vp, vq0, vq1, vq2, vq3, vr0, vr1, vr2, vr3, vr4, vr5, vr6, vr7, vr8, vr9, vr10, vr11, vr12, vr13, vr14, vr15, vr16, vr17, vr18, vr19, vr20, vr21, vr22, vr23, vr24, vr25, vr26, vr27, vr28, vr29, vr30, vr31, vr32, vr33, vr34, opS, fpS, okP, pack, nAl, allocA, shId, leaves, fillA, fillR, splice, Nat.reduceLT, Nat.reduceEqDiff, Nat.reduceLeDiff, Nat.reduceAdd, Nat.reduceSub, Nat.reduceMul, Int.reduceBEq, Int.reduceBNe, Int.reduceLT, Int.reduceLE, Int.reduceEq, reduceIte, reduceCtorEq, da, int, boolA, h1, h2, h3, o0, k0]
    refine l47b n hs2 (B0 := .box false (nodeC n)) (by simp) (by simp) (fun f'' K' T hr' hs' k0' k1' k2' h1' h2' h3' => ?_) n.kids.length 0 (.sc (.slice none 0 0)) _ _ (by omega) (.inl ⟨rfl, rfl⟩) hr k0 k1 k2 ?_ ?_ ?_ ?_ ?_ ?_
    · unfold c47R2
      have l1' := Heap.get_lt k1'
      have l2' := Heap.get_lt k2'
      have o1' := fun L => hx_get_old K' L 1 l1'
      have o2' := fun L => hx_get_old K' L 2 l2'
      have p1' := fun L b => hx_set_old K' L b 1 l1'
      have v1 : ∀ L b, (hx (K'.set 1 b) L).get 1 = some b := fun L b => by
        rw [hx_get_old _ _ _ (by simpa using l1'), Heap.get_set_self _ l1']
      have gg : ∀ {j : Nat} {B : Blk} (L : List Blk) (b : Blk), K'.get j = some B → j ≠ 1 → (hx (K'.set 1 b) L).get j = some B := fun L b hj hne => by
        rw [hx_get_old _ _ _ (by simpa using Heap.get_lt hj), Heap.get_set_ne _ hne]
        exact hj
      have gs : ∀ {j : Nat} (L : List Blk) (b c : Blk), j < K'.next → (hx (K'.set 1 b) L).set j c = hx ((K'.set 1 b).set j c) L := fun L b c hj => hx_set_old _ L c _ (by simpa using hj)
      have g3 : ∀ {i j : Nat} {B : Blk} (L : List Blk) (b c : Blk), K'.get j = some B → j ≠ 1 → j ≠ i → (hx ((K'.set 1 b).set i c) L).get j = some B := fun L b c hj hne hne2 => by
        rw [hx_get_old _ _ _ (by simpa using Heap.get_lt hj), Heap.get_set_ne _ hne2, Heap.get_set_ne _ hne]
        exact hj
      rcases hs' with ⟨rfl, e1⟩ | ⟨i1, rfl, g1⟩ <;> rcases hr' with ⟨rfl, e2⟩ | ⟨i2, rfl, g2⟩
      · simp only [↓vp, vq0, vq1, vq2, vq3, vr0, vr1, vr2, vr3, vr4, vr5, vr6, vr7, vr8, vr9, vr10, vr11, vr12, vr13, vr14, vr15, vr16, vr17, vr18, vr19, vr20, vr21, vr22, vr23, vr24, vr25, vr26, vr27, vr28, vr29, vr30, vr31, vr32, vr33, vr34, opS, fpS, okP, pack, nAl, allocA, shId, leaves, fillA, fillR, splice, Nat.reduceLT, Nat.reduceEqDiff, Nat.reduceLeDiff, Nat.reduceAdd, Nat.reduceSub, Nat.reduceMul, Int.reduceBEq, Int.reduceBNe, Int.reduceLT, Int.reduceLE, Int.reduceEq, reduceIte, reduceCtorEq, da, int, boolA, RetP_go, resT, resC, resN, retV1, retV2, retV3, retV0, frzFZ, takeM, Option.some.injEq, h1', h2', h3', o1', o2', k1', k2', p1', v1, nodeC, encI, encK, e1, e2]
      · have n2 : i2 ≠ 1 := fun e => by subst e; rw [k1'] at g2; cases g2
        have q2 := fun L b => gg L b g2 n2
        simp only [↓vp, vq0, vq1, vq2, vq3, vr0, vr1, vr2, vr3, vr4, vr5, vr6, vr7, vr8, vr9, vr10, vr11, vr12, vr13, vr14, vr15, vr16, vr17, vr18, vr19, vr20, vr21, vr22, vr23, vr24, vr25, vr26, vr27, vr28, vr29, vr30, vr31, vr32, vr33, vr34, opS, fpS, okP, pack, nAl, allocA, shId, leaves, fillA, fillR, splice, Nat.reduceLT, Nat.reduceEqDiff, Nat.reduceLeDiff, Nat.reduceAdd, Nat.reduceSub, Nat.reduceMul, Int.reduceBEq, Int.reduceBNe, Int.reduceLT, Int.reduceLE, Int.reduceEq, reduceIte, reduceCtorEq, da, int, boolA, RetP_go, resT, resC, resN, retV1, retV2, retV3, retV0, frzFZ, takeM, Option.some.injEq, h1', h2', h3', o1', o2', k1', k2', p1', v1, q2, nodeC, encI, encK, e1]
      · have n1 : i1 ≠ 1 := fun e => by subst e; rw [k1'] at g1; cases g1
        have q1 := fun L b => gg L b g1 n1
        simp only [↓vp, vq0, vq1, vq2, vq3, vr0, vr1, vr2, vr3, vr4, vr5, vr6, vr7, vr8, vr9, vr10, vr11, vr12, vr13, vr14, vr15, vr16, vr17, vr18, vr19, vr20, vr21, vr22, vr23, vr24, vr25, vr26, vr27, vr28, vr29, vr30, vr31, vr32, vr33, vr34, opS, fpS, okP, pack, nAl, allocA, shId, leaves, fillA, fillR, splice, Nat.reduceLT, Nat.reduceEqDiff, Nat.reduceLeDiff, Nat.reduceAdd, Nat.reduceSub, Nat.reduceMul, Int.reduceBEq, Int.reduceBNe, Int.reduceLT, Int.reduceLE, Int.reduceEq, reduceIte, reduceCtorEq, da, int, boolA, RetP_go, resT, resC, resN, retV1, retV2, retV3, retV0, frzFZ, takeM, Option.some.injEq, h1', h2', h3', o1', o2', k1', k2', p1', v1, q1, nodeC, encI, encK, e2]
      · have n1 : i1 ≠ 1 := fun e => by subst e; rw [k1'] at g1; cases g1
        have n2 : i2 ≠ 1 := fun e => by subst e; rw [k1'] at g2; cases g2
        have n12 : i2 ≠ i1 := fun e => by subst e; rw [g1] at g2; cases g2
        have q1 := fun L b => gg L b g1 n1
        have q2 := fun L b c => g3 (i := i1) L b c g2 n2 n12
        have q3 := fun L b c => gs L b c (Heap.get_lt g1)
        simp only [↓vp, vq0, vq1, vq2, vq3, vr0, vr1, vr2, vr3, vr4, vr5, vr6, vr7, vr8, vr9, vr10, vr11, vr12, vr13, vr14, vr15, vr16, vr17, vr18, vr19, vr20, vr21, vr22, vr23, vr24, vr25, vr26, vr27, vr28, vr29, vr30, vr31, vr32, vr33, vr34, opS, fpS, okP, pack, nAl, allocA, shId, leaves, fillA, fillR, splice, Nat.reduceLT, Nat.reduceEqDiff, Nat.reduceLeDiff, Nat.reduceAdd, Nat.reduceSub, Nat.reduceMul, Int.reduceBEq, Int.reduceBNe, Int.reduceLT, Int.reduceLE, Int.reduceEq, reduceIte, reduceCtorEq, da, int, boolA, RetP_go, resT, resC, resN, retV1, retV2, retV3, retV0, frzFZ, takeM, Option.some.injEq, h1', h2', h3', o1', o2', k1', k2', p1', v1, q1, q2, q3, nodeC, encI, encK]
    all_goals first | rfl | (simp only [↓vp, vq0, vq1, vq2, vq3, vr0, vr1, vr2, vr3, vr4, vr5, vr6, vr7, vr8, vr9, vr10, vr11, vr12, vr13, vr14, vr15, vr16, vr17, vr18, vr19, vr20, vr21, vr22, vr23, vr24, vr25, vr26, vr27, vr28, vr29, vr30, vr31, vr32, vr33, vr34, opS, fpS, okP, pack, nAl, allocA, shId, leaves, fillA, fillR, splice, Nat.reduceLT, Nat.reduceEqDiff, Nat.reduceLeDiff, Nat.reduceAdd, Nat.reduceSub, Nat.reduceMul, Int.reduceBEq, Int.reduceBNe, Int.reduceLT, Int.reduceLE, Int.reduceEq, reduceIte, reduceCtorEq, da, int, boolA, h1, h2, h3]; done)
  all_goals first | rfl | (simp only [↓vp, vq0, vq1, vq2, vq3, vr0, vr1, vr2, vr3, vr4, vr5, vr6, vr7, vr8, vr9, vr10, vr11, vr12, vr13, vr14, vr15, vr16, vr17, vr18, vr19, vr20, vr21, vr22, vr23, vr24, vr25, vr26, vr27, vr28, vr29, vr30, vr31, vr32, vr33, vr34, opS, fpS, okP, pack, nAl, allocA, shId, leaves, fillA, fillR, splice, Nat.reduceLT, Nat.reduceEqDiff, Nat.reduceLeDiff, Nat.reduceAdd, Nat.reduceSub, Nat.reduceMul, Int.reduceBEq, Int.reduceBNe, Int.reduceLT, Int.reduceLE, Int.reduceEq, reduceIte, reduceCtorEq, da, int, boolA]; done)
end Go.VI
