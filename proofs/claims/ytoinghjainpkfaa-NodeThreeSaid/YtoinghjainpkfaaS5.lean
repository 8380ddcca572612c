import Derived.Test.YtoinghjainpkfaaS4
import Derived.Lib.Bytes
/- What the claim hangs on, part 5: SD SE SF NA NB NC NP ND NE NF NG NH NI NJ NL. -/
set_option linter.unusedVariables false
set_option linter.unusedSimpArgs false
set_option maxRecDepth 100000
namespace Go.VI
attribute [local congr] AW_congr OW_congr DW_congr NW_congr VW_congr GW_congr PW_congr KW_congr ite_congr' GV_congr CV_congr
theorem l20a (n : NodeM) (hs : n.items.length ≤ 1000) {B0 B1 : Blk} (hn0 : ∀ s r, B0 ≠ .row false s r) (hn1 : ∀ s r, B1 ≠ .row false s r) {Q : AExit → Env → Heap → Prop}
   (hex : ∀ f' K S, Rep K 4 S (n.items.map itemC) → K.get 0 = some B0 → K.get 1 = some B1 → K.get 2 = some (.box false [boolA n.leaf, S, .sc (.slice none 0 0)]) → f' 1 = .ptr 0 0 0 → f' 2 = .ptr 1 0 0 → f' 3 = .ptr 2 0 0 → Q (.exit 0) (mkE 40 f') (hx K [])) :
   ∀ (d i : Nat) (S : AV) (K : Heap) (f : Nat → AV), i + d = n.items.length → Rep K 4 S ((n.items.take i).map itemC) → K.get 0 = some B0 → K.get 1 = some B1 → K.get 2 = some (.box false [boolA n.leaf, S, .sc (.slice none 0 0)]) →
    f 1 = .ptr 0 0 0 → f 2 = .ptr 1 0 0 → f 3 = .ptr 2 0 0 → f 12 = encI n.items → f 13 = int n.items.length → f 14 = int i →
    AW ft (.loop c20L0) (mkE 40 f) (hx K []) Q := by
  intro d
  induction d with
  | zero =>
    intro i S K f hd hr k0 k1 k2 h1 h2 h3 h12 h13 h14
    have g : ((i : Int) < n.items.length) = False := by simp; omega
    rw [AW_loop]
    unfold c20L0
    rw [List.take_of_length_le (by omega)] at hr
    simp only [↓vp, vq0, vq1, vq2, vq3, vr0, vr1, vr2, vr3, vr4, vr5, vr6, vr7, vr8, vr9, vr10, vr11, vr12, vr13, vr14, vr15, vr16, vr17, vr18, vr19, vr20, vr21, vr22, vr23, vr24, vr25, vr26, vr27, vr28, vr29, vr30, vr31, vr32, vr33, vr34, opS, fpS, okP, pack, nAl, allocA, shId, leaves, fillA, fillR, splice, Nat.reduceLT, Nat.reduceEqDiff, Nat.reduceLeDiff, Nat.reduceAdd, Nat.reduceSub, Nat.reduceMul, Int.reduceBEq, Int.reduceBNe, Int.reduceLT, Int.reduceLE, Int.reduceEq, reduceIte, reduceCtorEq, da, int, boolA, h13, h14, g]
    refine hex _ K S hr k0 k1 k2 ?_ ?_ ?_ <;> simp only [↓vp, vq0, vq1, vq2, vq3, vr0, vr1, vr2, vr3, vr4, vr5, vr6, vr7, vr8, vr9, vr10, vr11, vr12, vr13, vr14, vr15, vr16, vr17, vr18, vr19, vr20, vr21, vr22, vr23, vr24, vr25, vr26, vr27, vr28, vr29, vr30, vr31, vr32, vr33, vr34, opS, fpS, okP, pack, nAl, allocA, shId, leaves, fillA, fillR, splice, Nat.reduceLT, Nat.reduceEqDiff, Nat.reduceLeDiff, Nat.reduceAdd, Nat.reduceSub, Nat.reduceMul, Int.reduceBEq, Int.reduceBNe, Int.reduceLT, Int.reduceLE, Int.reduceEq, reduceIte, reduceCtorEq, da, int, boolA, h1, h2, h3]
  | succ d ih =>
    intro i S K f hd hr k0 k1 k2 h1 h2 h3 h12 h13 h14
    have g : ((i : Int) < n.items.length) = True := by simp; omega
    have gi : i < n.items.length := by omega
    have w1 := wrap_succ (show i < 9223372036854775807 by omega)
    have l0 := Heap.get_lt k0
    have l1 := Heap.get_lt k1
    have l2 := Heap.get_lt k2
    have o0 := fun L => hx_get_old K L 0 l0
    have o1 := fun L => hx_get_old K L 1 l1
    have o2 := fun L => hx_get_old K L 2 l2
    have p2 := fun L b => hx_set_old K L b 2 l2
    have ht : (n.items.take (i + 1)).map itemC = (n.items.take i).map itemC ++ [itemC n.items[i]] := by
      rw [List.take_succ_eq_append_getElem gi, List.map_append]; rfl
    rw [AW_loop]
    unfold c20L0
    rcases hr with ⟨rfl, hr⟩ | ⟨id, rfl, hr⟩
    · simp only [↓vp, vq0, vq1, vq2, vq3, vr0, vr1, vr2, vr3, vr4, vr5, vr6, vr7, vr8, vr9, vr10, vr11, vr12, vr13, vr14, vr15, vr16, vr17, vr18, vr19, vr20, vr21, vr22, vr23, vr24, vr25, vr26, vr27, vr28, vr29, vr30, vr31, vr32, vr33, vr34, opS, fpS, okP, pack, nAl, allocA, shId, leaves, fillA, fillR, splice, Nat.reduceLT, Nat.reduceEqDiff, Nat.reduceLeDiff, Nat.reduceAdd, Nat.reduceSub, Nat.reduceMul, Int.reduceBEq, Int.reduceBNe, Int.reduceLT, Int.reduceLE, Int.reduceEq, reduceIte, reduceCtorEq, da, int, boolA, h1, h2, h3, h12, h13, h14, g, atI gi, cI gi, k2, o2, p2, w1]
      rw [← hx_nil (hx _ _)]
      have q0 : ∀ (j : Nat) (b : Blk) (L : List Blk), j ≠ 2 → j < K.next → (hx (K.set 2 b) L).get j = K.get j := fun j b L hj hl => by
        rw [hx_get_old _ _ _ (by simpa using hl), Heap.get_set_ne _ hj]
      have q2 : ∀ (b : Blk) (L : List Blk), (hx (K.set 2 b) L).get 2 = some b := fun b L => by
        rw [hx_get_old _ _ _ (by simpa using l2), Heap.get_set_self _ l2]
      refine ih (i + 1) (.sl (K.next + 2) 0 1) _ _ (by omega) (.inr ⟨K.next + 2, ?_, ?_⟩) ?_ ?_ ?_ ?_ ?_ ?_ ?_ ?_ ?_
      · rw [ht, hr]; rfl
      · rw [ht, hr]
        simp only [↓vp, vq0, vq1, vq2, vq3, vr0, vr1, vr2, vr3, vr4, vr5, vr6, vr7, vr8, vr9, vr10, vr11, vr12, vr13, vr14, vr15, vr16, vr17, vr18, vr19, vr20, vr21, vr22, vr23, vr24, vr25, vr26, vr27, vr28, vr29, vr30, vr31, vr32, vr33, vr34, opS, fpS, okP, pack, nAl, allocA, shId, leaves, fillA, fillR, splice, Nat.reduceLT, Nat.reduceEqDiff, Nat.reduceLeDiff, Nat.reduceAdd, Nat.reduceSub, Nat.reduceMul, Int.reduceBEq, Int.reduceBNe, Int.reduceLT, Int.reduceLE, Int.reduceEq, reduceIte, reduceCtorEq]
      · rw [q0 _ _ _ (by decide) l0]; exact k0
      · rw [q0 _ _ _ (by decide) l1]; exact k1
      · rw [q2]; rfl
      all_goals simp only [↓vp, vq0, vq1, vq2, vq3, vr0, vr1, vr2, vr3, vr4, vr5, vr6, vr7, vr8, vr9, vr10, vr11, vr12, vr13, vr14, vr15, vr16, vr17, vr18, vr19, vr20, vr21, vr22, vr23, vr24, vr25, vr26, vr27, vr28, vr29, vr30, vr31, vr32, vr33, vr34, opS, fpS, okP, pack, nAl, allocA, shId, leaves, fillA, fillR, splice, Nat.reduceLT, Nat.reduceEqDiff, Nat.reduceLeDiff, Nat.reduceAdd, Nat.reduceSub, Nat.reduceMul, Int.reduceBEq, Int.reduceBNe, Int.reduceLT, Int.reduceLE, Int.reduceEq, reduceIte, reduceCtorEq, da, int, boolA, h1, h2, h3, h12, h13]
    · have lid := Heap.get_lt hr
      have d0 : 0 ≠ id := fun e => by subst e; rw [k0] at hr; exact hn0 _ _ (Option.some.inj hr)
      have d1 : 1 ≠ id := fun e => by subst e; rw [k1] at hr; exact hn1 _ _ (Option.some.inj hr)
      have d2 : 2 ≠ id := fun e => by subst e; rw [k2] at hr; cases hr
      have oid := fun L => hx_get_old K L id lid
      have pid := fun L b => hx_set_old K L b id lid
      have o2' : ∀ (L : List Blk) (b : Blk), (hx (K.set id b) L).get 2 = K.get 2 := fun L b => by
        rw [hx_get_old _ _ _ (by simpa using l2), Heap.get_set_ne _ d2]
      have p2' : ∀ (L : List Blk) (b c : Blk), (hx (K.set id b) L).set 2 c = hx ((K.set id b).set 2 c) L := fun L b c => hx_set_old _ L c 2 (by simpa using l2)
      have hlen : ((n.items.take i).map itemC).length = i := by simp; omega
      have hb : (i + 1) * 64 ≤ 140737488355328 := by omega
      have hr' := hr
      have nle : (i + 1 ≤ i) = False := eq_false (by omega)
      simp only [↓vp, vq0, vq1, vq2, vq3, vr0, vr1, vr2, vr3, vr4, vr5, vr6, vr7, vr8, vr9, vr10, vr11, vr12, vr13, vr14, vr15, vr16, vr17, vr18, vr19, vr20, vr21, vr22, vr23, vr24, vr25, vr26, vr27, vr28, vr29, vr30, vr31, vr32, vr33, vr34, opS, fpS, okP, pack, nAl, allocA, shId, leaves, fillA, fillR, splice, Nat.reduceLT, Nat.reduceEqDiff, Nat.reduceLeDiff, Nat.reduceAdd, Nat.reduceSub, Nat.reduceMul, Int.reduceBEq, Int.reduceBNe, Int.reduceLT, Int.reduceLE, Int.reduceEq, reduceIte, reduceCtorEq, da, int, boolA, h1, h2, h3, h12, h13, h14, g, atI gi, cI gi, k2, o2, p2, w1, oid, pid, o2', p2', hr, hlen, hb, List.take_of_length_le (Nat.le_of_eq hlen), List.length_take, nle]
      rw [← hx_nil (hx _ _)]
      have q0 : ∀ (j : Nat) (b c : Blk) (L : List Blk), j ≠ 2 → j ≠ id → j < K.next → (hx ((K.set id c).set 2 b) L).get j = K.get j := fun j b c L hj hj2 hl => by
        rw [hx_get_old _ _ _ (by simpa using hl), Heap.get_set_ne _ hj, Heap.get_set_ne _ hj2]
      have q2 : ∀ (b c : Blk) (L : List Blk), (hx ((K.set id c).set 2 b) L).get 2 = some b := fun b c L => by
        rw [hx_get_old _ _ _ (by simpa using l2), Heap.get_set_self _ (by simpa using l2)]
      refine ih (i + 1) (.sl (K.next + 2) 0 (i + 1)) _ _ (by omega) (.inr ⟨K.next + 2, ?_, ?_⟩) ?_ ?_ ?_ ?_ ?_ ?_ ?_ ?_ ?_
      · rw [ht, List.length_append, hlen]; rfl
      · rw [ht]
        simp only [↓vp, vq0, vq1, vq2, vq3, vr0, vr1, vr2, vr3, vr4, vr5, vr6, vr7, vr8, vr9, vr10, vr11, vr12, vr13, vr14, vr15, vr16, vr17, vr18, vr19, vr20, vr21, vr22, vr23, vr24, vr25, vr26, vr27, vr28, vr29, vr30, vr31, vr32, vr33, vr34, opS, fpS, okP, pack, nAl, allocA, shId, leaves, fillA, fillR, splice, Nat.reduceLT, Nat.reduceEqDiff, Nat.reduceLeDiff, Nat.reduceAdd, Nat.reduceSub, Nat.reduceMul, Int.reduceBEq, Int.reduceBNe, Int.reduceLT, Int.reduceLE, Int.reduceEq, reduceIte, reduceCtorEq]
      · rw [q0 _ _ _ _ (by decide) d0 l0]; exact k0
      · rw [q0 _ _ _ _ (by decide) d1 l1]; exact k1
      · rw [q2]; rfl
      all_goals simp only [↓vp, vq0, vq1, vq2, vq3, vr0, vr1, vr2, vr3, vr4, vr5, vr6, vr7, vr8, vr9, vr10, vr11, vr12, vr13, vr14, vr15, vr16, vr17, vr18, vr19, vr20, vr21, vr22, vr23, vr24, vr25, vr26, vr27, vr28, vr29, vr30, vr31, vr32, vr33, vr34, opS, fpS, okP, pack, nAl, allocA, shId, leaves, fillA, fillR, splice, Nat.reduceLT, Nat.reduceEqDiff, Nat.reduceLeDiff, Nat.reduceAdd, Nat.reduceSub, Nat.reduceMul, Int.reduceBEq, Int.reduceBNe, Int.reduceLT, Int.reduceLE, Int.reduceEq, reduceIte, reduceCtorEq, da, int, boolA, h1, h2, h3, h12, h13]
theorem l20b (n : NodeM) (hs : n.kids.length ≤ 1000) {B0 B1 : Blk} (hn0 : ∀ s r, B0 ≠ .row false s r) (hn1 : ∀ s r, B1 ≠ .row false s r) {S : AV} {rows : List (List AV)} {Q : AExit → Env → Heap → Prop}
   (hex : ∀ f' K T, Rep K 2 T (n.kids.map kidC) → Rep K 4 S rows → K.get 0 = some B0 → K.get 1 = some B1 → K.get 2 = some (.box false [boolA n.leaf, S, T]) → f' 1 = .ptr 0 0 0 → f' 2 = .ptr 1 0 0 → f' 3 = .ptr 2 0 0 → Q (.exit 2) (mkE 40 f') (hx K [])) :
   ∀ (d i : Nat) (T : AV) (K : Heap) (f : Nat → AV), i + d = n.kids.length → Rep K 2 T ((n.kids.take i).map kidC) → Rep K 4 S rows → K.get 0 = some B0 → K.get 1 = some B1 → K.get 2 = some (.box false [boolA n.leaf, S, T]) →
    f 1 = .ptr 0 0 0 → f 2 = .ptr 1 0 0 → f 3 = .ptr 2 0 0 → f 26 = encK n.kids → f 27 = int n.kids.length → f 28 = int i →
    AW ft (.loop c20L1) (mkE 40 f) (hx K []) Q := by
  intro d
  induction d with
  | zero =>
    intro i T K f hd hr hrS k0 k1 k2 h1 h2 h3 h26 h27 h28
    have g : ((i : Int) < n.kids.length) = False := by simp; omega
    rw [AW_loop]
    unfold c20L1
    rw [List.take_of_length_le (by omega)] at hr
    simp only [↓vp, vq0, vq1, vq2, vq3, vr0, vr1, vr2, vr3, vr4, vr5, vr6, vr7, vr8, vr9, vr10, vr11, vr12, vr13, vr14, vr15, vr16, vr17, vr18, vr19, vr20, vr21, vr22, vr23, vr24, vr25, vr26, vr27, vr28, vr29, vr30, vr31, vr32, vr33, vr34, opS, fpS, okP, pack, nAl, allocA, shId, leaves, fillA, fillR, splice, Nat.reduceLT, Nat.reduceEqDiff, Nat.reduceLeDiff, Nat.reduceAdd, Nat.reduceSub, Nat.reduceMul, Int.reduceBEq, Int.reduceBNe, Int.reduceLT, Int.reduceLE, Int.reduceEq, reduceIte, reduceCtorEq, da, int, boolA, h27, h28, g]
    refine hex _ K T hr hrS k0 k1 k2 ?_ ?_ ?_ <;> simp only [↓vp, vq0, vq1, vq2, vq3, vr0, vr1, vr2, vr3, vr4, vr5, vr6, vr7, vr8, vr9, vr10, vr11, vr12, vr13, vr14, vr15, vr16, vr17, vr18, vr19, vr20, vr21, vr22, vr23, vr24, vr25, vr26, vr27, vr28, vr29, vr30, vr31, vr32, vr33, vr34, opS, fpS, okP, pack, nAl, allocA, shId, leaves, fillA, fillR, splice, Nat.reduceLT, Nat.reduceEqDiff, Nat.reduceLeDiff, Nat.reduceAdd, Nat.reduceSub, Nat.reduceMul, Int.reduceBEq, Int.reduceBNe, Int.reduceLT, Int.reduceLE, Int.reduceEq, reduceIte, reduceCtorEq, da, int, boolA, h1, h2, h3]
  | succ d ih =>
    intro i T K f hd hr hrS k0 k1 k2 h1 h2 h3 h26 h27 h28
    have g : ((i : Int) < n.kids.length) = True := by simp; omega
    have gi : i < n.kids.length := by omega
    have w1 := wrap_succ (show i < 9223372036854775807 by omega)
    have l0 := Heap.get_lt k0
    have l1 := Heap.get_lt k1
    have l2 := Heap.get_lt k2
    have o0 := fun L => hx_get_old K L 0 l0
    have o1 := fun L => hx_get_old K L 1 l1
    have o2 := fun L => hx_get_old K L 2 l2
    have p2 := fun L b => hx_set_old K L b 2 l2
    have ht : (n.kids.take (i + 1)).map kidC = (n.kids.take i).map kidC ++ [kidC n.kids[i]] := by
      rw [List.take_succ_eq_append_getElem gi, List.map_append]; rfl
    rw [AW_loop]
    unfold c20L1
    rcases hr with ⟨rfl, hr⟩ | ⟨id, rfl, hr⟩
    · simp only [↓vp, vq0, vq1, vq2, vq3, vr0, vr1, vr2, vr3, vr4, vr5, vr6, vr7, vr8, vr9, vr10, vr11, vr12, vr13, vr14, vr15, vr16, vr17, vr18, vr19, vr20, vr21, vr22, vr23, vr24, vr25, vr26, vr27, vr28, vr29, vr30, vr31, vr32, vr33, vr34, opS, fpS, okP, pack, nAl, allocA, shId, leaves, fillA, fillR, splice, Nat.reduceLT, Nat.reduceEqDiff, Nat.reduceLeDiff, Nat.reduceAdd, Nat.reduceSub, Nat.reduceMul, Int.reduceBEq, Int.reduceBNe, Int.reduceLT, Int.reduceLE, Int.reduceEq, reduceIte, reduceCtorEq, da, int, boolA, h1, h2, h3, h26, h27, h28, g, atK gi, cK gi, k2, o2, p2, w1]
      rw [← hx_nil (hx _ _)]
      have q0 : ∀ (j : Nat) (b : Blk) (L : List Blk), j ≠ 2 → j < K.next → (hx (K.set 2 b) L).get j = K.get j := fun j b L hj hl => by
        rw [hx_get_old _ _ _ (by simpa using hl), Heap.get_set_ne _ hj]
      have q2 : ∀ (b : Blk) (L : List Blk), (hx (K.set 2 b) L).get 2 = some b := fun b L => by
        rw [hx_get_old _ _ _ (by simpa using l2), Heap.get_set_self _ l2]
      have hS : Rep (hx (K.set 2 (.box false [boolA n.leaf, S, .sl (K.next + 2) 0 1])) [.box false (kidC n.kids[i]), .row false 2 [kidC n.kids[i]], .row false 2 [kidC n.kids[i]]]) 4 S rows := hrS.mono fun j hj => by
        rw [q0 _ _ _ (fun e => by subst e; rw [k2] at hj; cases hj) (Heap.get_lt hj)]
        exact hj
      refine ih (i + 1) (.sl (K.next + 2) 0 1) _ _ (by omega) (.inr ⟨K.next + 2, ?_, ?_⟩) hS ?_ ?_ ?_ ?_ ?_ ?_ ?_ ?_ ?_
      · rw [ht, hr]; rfl
      · rw [ht, hr]
        simp only [↓vp, vq0, vq1, vq2, vq3, vr0, vr1, vr2, vr3, vr4, vr5, vr6, vr7, vr8, vr9, vr10, vr11, vr12, vr13, vr14, vr15, vr16, vr17, vr18, vr19, vr20, vr21, vr22, vr23, vr24, vr25, vr26, vr27, vr28, vr29, vr30, vr31, vr32, vr33, vr34, opS, fpS, okP, pack, nAl, allocA, shId, leaves, fillA, fillR, splice, Nat.reduceLT, Nat.reduceEqDiff, Nat.reduceLeDiff, Nat.reduceAdd, Nat.reduceSub, Nat.reduceMul, Int.reduceBEq, Int.reduceBNe, Int.reduceLT, Int.reduceLE, Int.reduceEq, reduceIte, reduceCtorEq]
      · rw [q0 _ _ _ (by decide) l0]; exact k0
      · rw [q0 _ _ _ (by decide) l1]; exact k1
      · rw [q2]; rfl
      all_goals simp only [↓vp, vq0, vq1, vq2, vq3, vr0, vr1, vr2, vr3, vr4, vr5, vr6, vr7, vr8, vr9, vr10, vr11, vr12, vr13, vr14, vr15, vr16, vr17, vr18, vr19, vr20, vr21, vr22, vr23, vr24, vr25, vr26, vr27, vr28, vr29, vr30, vr31, vr32, vr33, vr34, opS, fpS, okP, pack, nAl, allocA, shId, leaves, fillA, fillR, splice, Nat.reduceLT, Nat.reduceEqDiff, Nat.reduceLeDiff, Nat.reduceAdd, Nat.reduceSub, Nat.reduceMul, Int.reduceBEq, Int.reduceBNe, Int.reduceLT, Int.reduceLE, Int.reduceEq, reduceIte, reduceCtorEq, da, int, boolA, h1, h2, h3, h26, h27]
    · have lid := Heap.get_lt hr
      have d0 : 0 ≠ id := fun e => by subst e; rw [k0] at hr; exact hn0 _ _ (Option.some.inj hr)
      have d1 : 1 ≠ id := fun e => by subst e; rw [k1] at hr; exact hn1 _ _ (Option.some.inj hr)
      have d2 : 2 ≠ id := fun e => by subst e; rw [k2] at hr; cases hr
      have oid := fun L => hx_get_old K L id lid
      have pid := fun L b => hx_set_old K L b id lid
      have o2' : ∀ (L : List Blk) (b : Blk), (hx (K.set id b) L).get 2 = K.get 2 := fun L b => by
        rw [hx_get_old _ _ _ (by simpa using l2), Heap.get_set_ne _ d2]
      have p2' : ∀ (L : List Blk) (b c : Blk), (hx (K.set id b) L).set 2 c = hx ((K.set id b).set 2 c) L := fun L b c => hx_set_old _ L c 2 (by simpa using l2)
      have hlen : ((n.kids.take i).map kidC).length = i := by simp; omega
      have hb : (i + 1) * 32 ≤ 140737488355328 := by omega
      have hr' := hr
      have nle : (i + 1 ≤ i) = False := eq_false (by omega)
      simp only [↓vp, vq0, vq1, vq2, vq3, vr0, vr1, vr2, vr3, vr4, vr5, vr6, vr7, vr8, vr9, vr10, vr11, vr12, vr13, vr14, vr15, vr16, vr17, vr18, vr19, vr20, vr21, vr22, vr23, vr24, vr25, vr26, vr27, vr28, vr29, vr30, vr31, vr32, vr33, vr34, opS, fpS, okP, pack, nAl, allocA, shId, leaves, fillA, fillR, splice, Nat.reduceLT, Nat.reduceEqDiff, Nat.reduceLeDiff, Nat.reduceAdd, Nat.reduceSub, Nat.reduceMul, Int.reduceBEq, Int.reduceBNe, Int.reduceLT, Int.reduceLE, Int.reduceEq, reduceIte, reduceCtorEq, da, int, boolA, h1, h2, h3, h26, h27, h28, g, atK gi, cK gi, k2, o2, p2, w1, oid, pid, o2', p2', hr, hlen, hb, List.take_of_length_le (Nat.le_of_eq hlen), List.length_take, nle]
      rw [← hx_nil (hx _ _)]
      have q0 : ∀ (j : Nat) (b c : Blk) (L : List Blk), j ≠ 2 → j ≠ id → j < K.next → (hx ((K.set id c).set 2 b) L).get j = K.get j := fun j b c L hj hj2 hl => by
        rw [hx_get_old _ _ _ (by simpa using hl), Heap.get_set_ne _ hj, Heap.get_set_ne _ hj2]
      have q2 : ∀ (b c : Blk) (L : List Blk), (hx ((K.set id c).set 2 b) L).get 2 = some b := fun b c L => by
        rw [hx_get_old _ _ _ (by simpa using l2), Heap.get_set_self _ (by simpa using l2)]
      have hS : Rep (hx ((K.set id .dead).set 2 (.box false [boolA n.leaf, S, .sl (K.next + 2) 0 (i + 1)])) [.box false (kidC n.kids[i]), .row false 2 [kidC n.kids[i]], .row false 2 ((n.kids.take i).map kidC ++ [kidC n.kids[i]])]) 4 S rows := hrS.mono fun j hj => by
        rw [q0 _ _ _ _ (fun e => by subst e; rw [k2] at hj; cases hj) (fun e => by subst e; rw [hr'] at hj; cases hj) (Heap.get_lt hj)]
        exact hj
      refine ih (i + 1) (.sl (K.next + 2) 0 (i + 1)) _ _ (by omega) (.inr ⟨K.next + 2, ?_, ?_⟩) hS ?_ ?_ ?_ ?_ ?_ ?_ ?_ ?_ ?_
      · rw [ht, List.length_append, hlen]; rfl
      · rw [ht]
        simp only [↓vp, vq0, vq1, vq2, vq3, vr0, vr1, vr2, vr3, vr4, vr5, vr6, vr7, vr8, vr9, vr10, vr11, vr12, vr13, vr14, vr15, vr16, vr17, vr18, vr19, vr20, vr21, vr22, vr23, vr24, vr25, vr26, vr27, vr28, vr29, vr30, vr31, vr32, vr33, vr34, opS, fpS, okP, pack, nAl, allocA, shId, leaves, fillA, fillR, splice, Nat.reduceLT, Nat.reduceEqDiff, Nat.reduceLeDiff, Nat.reduceAdd, Nat.reduceSub, Nat.reduceMul, Int.reduceBEq, Int.reduceBNe, Int.reduceLT, Int.reduceLE, Int.reduceEq, reduceIte, reduceCtorEq]
      · rw [q0 _ _ _ _ (by decide) d0 l0]; exact k0
      · rw [q0 _ _ _ _ (by decide) d1 l1]; exact k1
      · rw [q2]; rfl
      all_goals simp only [↓vp, vq0, vq1, vq2, vq3, vr0, vr1, vr2, vr3, vr4, vr5, vr6, vr7, vr8, vr9, vr10, vr11, vr12, vr13, vr14, vr15, vr16, vr17, vr18, vr19, vr20, vr21, vr22, vr23, vr24, vr25, vr26, vr27, vr28, vr29, vr30, vr31, vr32, vr33, vr34, opS, fpS, okP, pack, nAl, allocA, shId, leaves, fillA, fillR, splice, Nat.reduceLT, Nat.reduceEqDiff, Nat.reduceLeDiff, Nat.reduceAdd, Nat.reduceSub, Nat.reduceMul, Int.reduceBEq, Int.reduceBNe, Int.reduceLT, Int.reduceLE, Int.reduceEq, reduceIte, reduceCtorEq, da, int, boolA, h1, h2, h3, h26, h27]
theorem s20 (n : NodeM) (hs : n.items.length ≤ 1000) (hs2 : n.kids.length ≤ 1000) (H : Heap) : callL ft (.fn (.func 20) [] []) [.agg (nodeC n)] H = some (.agg (nodeC n), H) := by
  refine call_p (as' := [.agg (nodeC n)]) rfl rfl (by simp) ?_
  unfold c20 r20
  simp only [↓vp, vq0, vq1, vq2, vq3, vr0, vr1, vr2, vr3, vr4, vr5, vr6, vr7, vr8, vr9, vr10, vr11, vr12, vr13, vr14, vr15, vr16, vr17, vr18, vr19, vr20, vr21, vr22, vr23, vr24, vr25, vr26, vr27, vr28, vr29, vr30, vr31, vr32, vr33, vr34, opS, fpS, okP, pack, nAl, allocA, shId, leaves, fillA, fillR, splice, Nat.reduceLT, Nat.reduceEqDiff, Nat.reduceLeDiff, Nat.reduceAdd, Nat.reduceSub, Nat.reduceMul, Int.reduceBEq, Int.reduceBNe, Int.reduceLT, Int.reduceLE, Int.reduceEq, reduceIte, reduceCtorEq, da, int, boolA]
  rw [← hx_nil (hx _ _)]
  refine l20a n hs (B0 := .box false (nodeC n)) (B1 := .box false [.sc (.bool false), .sc (.slice none 0 0), .sc (.slice none 0 0)]) (by simp) (by simp) (fun f' K S hr k0 k1 k2 h1 h2 h3 => ?_) n.items.length 0 (.sc (.slice none 0 0)) _ _ (by omega) (.inl ⟨rfl, rfl⟩) ?_ ?_ ?_ ?_ ?_ ?_ ?_ ?_ ?_
  · unfold c20R3
    have l0 := Heap.get_lt k0
    have l1 := Heap.get_lt k1
    have l2 := Heap.get_lt k2
    have o0 := fun L => hx_get_old K L 0 l0
    have o1 := fun L => hx_get_old K L 1 l1
    have o2 := fun L => hx_get_old K L 2 l2
    simp only [↓vp, vq0, vq1, vq2, vq3, vr0, vr1, vr2, vr3, vr4, vr5, vr6, vr7, vr8, vr9, vr10, vr11, vr12, vr13, vr14, vr15, vr16, vr17, vr18, vr19, vr20, vr21, vr22, vr23, vr24, vr25, vr26, vr27, vr28, vr29, vr30, vr31, vr32, vr33, vr34, opS, fpS, okP, pack, nAl, allocA, shId, leaves, fillA, fillR, splice, Nat.reduceLT, Nat.reduceEqDiff, Nat.reduceLeDiff, Nat.reduceAdd, Nat.reduceSub, Nat.reduceMul, Int.reduceBEq, Int.reduceBNe, Int.reduceLT, Int.reduceLE, Int.reduceEq, reduceIte, reduceCtorEq, da, int, boolA, h1, h2, h3, o0, k0]
    refine l20b n hs2 (B0 := .box false (nodeC n)) (by simp) (by simp) (fun f'' K' T hr' hs' k0' k1' k2' h1' h2' h3' => ?_) n.kids.length 0 (.sc (.slice none 0 0)) _ _ (by omega) (.inl ⟨rfl, rfl⟩) hr k0 k1 k2 ?_ ?_ ?_ ?_ ?_ ?_
    · unfold c20R2
      have l1' := Heap.get_lt k1'
      have l2' := Heap.get_lt k2'
      have o1' := fun L => hx_get_old K' L 1 l1'
      have o2' := fun L => hx_get_old K' L 2 l2'
      have p1' := fun L b => hx_set_old K' L b 1 l1'
      have v1 : ∀ L b, (hx (K'.set 1 b) L).get 1 = some b := fun L b => by
        rw [hx_get_old _ _ _ (by simpa using l1'), Heap.get_set_self _ l1']
      have gg : ∀ {j : Nat} {B : Blk} (L : List Blk) (b : Blk), K'.get j = some B → j ≠ 1 → (hx (K'.set 1 b) L).get j = some B := fun L b hj hne => by
        rw [hx_get_old _ _ _ (by simpa using Heap.get_lt hj), Heap.get_set_ne _ hne]
        exact hj
      have gs : ∀ {j : Nat} (L : List Blk) (b c : Blk), j < K'.next → (hx (K'.set 1 b) L).set j c = hx ((K'.set 1 b).set j c) L := fun L b c hj => hx_set_old _ L c _ (by simpa using hj)
      have g3 : ∀ {i j : Nat} {B : Blk} (L : List Blk) (b c : Blk), K'.get j = some B → j ≠ 1 → j ≠ i → (hx ((K'.set 1 b).set i c) L).get j = some B := fun L b c hj hne hne2 => by
        rw [hx_get_old _ _ _ (by simpa using Heap.get_lt hj), Heap.get_set_ne _ hne2, Heap.get_set_ne _ hne]
        exact hj
      rcases hs' with ⟨rfl, e1⟩ | ⟨i1, rfl, g1⟩ <;> rcases hr' with ⟨rfl, e2⟩ | ⟨i2, rfl, g2⟩
      · simp only [↓vp, vq0, vq1, vq2, vq3, vr0, vr1, vr2, vr3, vr4, vr5, vr6, vr7, vr8, vr9, vr10, vr11, vr12, vr13, vr14, vr15, vr16, vr17, vr18, vr19, vr20, vr21, vr22, vr23, vr24, vr25, vr26, vr27, vr28, vr29, vr30, vr31, vr32, vr33, vr34, opS, fpS, okP, pack, nAl, allocA, shId, leaves, fillA, fillR, splice, Nat.reduceLT, Nat.reduceEqDiff, Nat.reduceLeDiff, Nat.reduceAdd, Nat.reduceSub, Nat.reduceMul, Int.reduceBEq, Int.reduceBNe, Int.reduceLT, Int.reduceLE, Int.reduceEq, reduceIte, reduceCtorEq, da, int, boolA, RetP_go, resT, resC, resN, retV1, retV2, retV3, retV0, frzFZ, takeM, Option.some.injEq, h1', h2', h3', o1', o2', k1', k2', p1', v1, nodeC, encI, encK, e1, e2]
      · have n2 : i2 ≠ 1 := fun e => by subst e; rw [k1'] at g2; cases g2
        have q2 := fun L b => gg L b g2 n2
        simp only [↓vp, vq0, vq1, vq2, vq3, vr0, vr1, vr2, vr3, vr4, vr5, vr6, vr7, vr8, vr9, vr10, vr11, vr12, vr13, vr14, vr15, vr16, vr17, vr18, vr19, vr20, vr21, vr22, vr23, vr24, vr25, vr26, vr27, vr28, vr29, vr30, vr31, vr32, vr33, vr34, opS, fpS, okP, pack, nAl, allocA, shId, leaves, fillA, fillR, splice, Nat.reduceLT, Nat.reduceEqDiff, Nat.reduceLeDiff, Nat.reduceAdd, Nat.reduceSub, Nat.reduceMul, Int.reduceBEq, Int.reduceBNe, Int.reduceLT, Int.reduceLE, Int.reduceEq, reduceIte, reduceCtorEq, da, int, boolA, RetP_go, resT, resC, resN, retV1, retV2, retV3, retV0, frzFZ, takeM, Option.some.injEq, h1', h2', h3', o1', o2', k1', k2', p1', v1, q2, nodeC, encI, encK, e1]
      · have n1 : i1 ≠ 1 := fun e => by subst e; rw [k1'] at g1; cases g1
        have q1 := fun L b => gg L b g1 n1
        simp only [↓vp, vq0, vq1, vq2, vq3, vr0, vr1, vr2, vr3, vr4, vr5, vr6, vr7, vr8, vr9, vr10, vr11, vr12, vr13, vr14, vr15, vr16, vr17, vr18, vr19, vr20, vr21, vr22, vr23, vr24, vr25, vr26, vr27, vr28, vr29, vr30, vr31, vr32, vr33, vr34, opS, fpS, okP, pack, nAl, allocA, shId, leaves, fillA, fillR, splice, Nat.reduceLT, Nat.reduceEqDiff, Nat.reduceLeDiff, Nat.reduceAdd, Nat.reduceSub, Nat.reduceMul, Int.reduceBEq, Int.reduceBNe, Int.reduceLT, Int.reduceLE, Int.reduceEq, reduceIte, reduceCtorEq, da, int, boolA, RetP_go, resT, resC, resN, retV1, retV2, retV3, retV0, frzFZ, takeM, Option.some.injEq, h1', h2', h3', o1', o2', k1', k2', p1', v1, q1, nodeC, encI, encK, e2]
      · have n1 : i1 ≠ 1 := fun e => by subst e; rw [k1'] at g1; cases g1
        have n2 : i2 ≠ 1 := fun e => by subst e; rw [k1'] at g2; cases g2
        have n12 : i2 ≠ i1 := fun e => by subst e; rw [g1] at g2; cases g2
        have q1 := fun L b => gg L b g1 n1
        have q2 := fun L b c => g3 (i := i1) L b c g2 n2 n12
        have q3 := fun L b c => gs L b c (Heap.get_lt g1)
        simp only [↓vp, vq0, vq1, vq2, vq3, vr0, vr1, vr2, vr3, vr4, vr5, vr6, vr7, vr8, vr9, vr10, vr11, vr12, vr13, vr14, vr15, vr16, vr17, vr18, vr19, vr20, vr21, vr22, vr23, vr24, vr25, vr26, vr27, vr28, vr29, vr30, vr31, vr32, vr33, vr34, opS, fpS, okP, pack, nAl, allocA, shId, leaves, fillA, fillR, splice, Nat.reduceLT, Nat.reduceEqDiff, Nat.reduceLeDiff, Nat.reduceAdd, Nat.reduceSub, Nat.reduceMul, Int.reduceBEq, Int.reduceBNe, Int.reduceLT, Int.reduceLE, Int.reduceEq, reduceIte, reduceCtorEq, da, int, boolA, RetP_go, resT, resC, resN, retV1, retV2, retV3, retV0, frzFZ, takeM, Option.some.injEq, h1', h2', h3', o1', o2', k1', k2', p1', v1, q1, q2, q3, nodeC, encI, encK]
    all_goals first | rfl | (simp only [↓vp, vq0, vq1, vq2, vq3, vr0, vr1, vr2, vr3, vr4, vr5, vr6, vr7, vr8, vr9, vr10, vr11, vr12, vr13, vr14, vr15, vr16, vr17, vr18, vr19, vr20, vr21, vr22, vr23, vr24, vr25, vr26, vr27, vr28, vr29, vr30, vr31, vr32, vr33, vr34, opS, fpS, okP, pack, nAl, allocA, shId, leaves, fillA, fillR, splice, Nat.reduceLT, Nat.reduceEqDiff, Nat.reduceLeDiff, Nat.reduceAdd, Nat.reduceSub, Nat.reduceMul, Int.reduceBEq, Int.reduceBNe, Int.reduceLT, Int.reduceLE, Int.reduceEq, reduceIte, reduceCtorEq, da, int, boolA, h1, h2, h3]; done)
  all_goals first | rfl | (simp only [↓vp, vq0, vq1, vq2, vq3, vr0, vr1, vr2, vr3, vr4, vr5, vr6, vr7, vr8, vr9, vr10, vr11, vr12, vr13, vr14, vr15, vr16, vr17, vr18, vr19, vr20, vr21, vr22, vr23, vr24, vr25, vr26, vr27, vr28, vr29, vr30, vr31, vr32, vr33, vr34, opS, fpS, okP, pack, nAl, allocA, shId, leaves, fillA, fillR, splice, Nat.reduceLT, Nat.reduceEqDiff, Nat.reduceLeDiff, Nat.reduceAdd, Nat.reduceSub, Nat.reduceMul, Int.reduceBEq, Int.reduceBNe, Int.reduceLT, Int.reduceLE, Int.reduceEq, reduceIte, reduceCtorEq, da, int, boolA]; done)
end Go.VI

set_option linter.unusedVariables false
set_option linter.unusedSimpArgs false
set_option maxRecDepth 100000
namespace Go.VI
attribute [local congr] AW_congr OW_congr DW_congr NW_congr VW_congr GW_congr PW_congr KW_congr ite_congr' GV_congr CV_congr
theorem s183 {a b : Bytes} (ha : okB a) (hb : okB b) (H : Heap) : callL ft (.fn (.func 183) [] []) [encB a, encB b] H = some (int (cmpB a b), H) := by
  refine call_pprim (p := cmpP) rfl (as' := [encB a, encB b]) rfl ?_
  show ((bytesOfRows (a.map byteC)).bind fun l => (bytesOfRows (b.map byteC)).bind fun k => if byteR l && byteR k then some (AV.sc (.int .i64 (cmpB l k))) else none) = _
  have h1 : bytesOfRows (a.map byteC) = some a := bytesOfRows_map a
  have h2 : bytesOfRows (b.map byteC) = some b := bytesOfRows_map b
  rw [h1, h2, Option.bind_some, Option.bind_some, ha.r, hb.r]
  rfl
theorem k183 {a b : Bytes} (ha : okB a) (hb : okB b) {K : Heap} {L : List Blk} {Q : AV → Heap → Prop} : KW ft (.fn (.func 183) [] []) [encB a, encB b] (hx K L) Q ↔ Q (int (cmpB a b)) (hx K L) := KW_of (s183 ha hb _)
theorem s169 {a b : Bytes} (ha : okB a) (hb : okB b) (H : Heap) : callL ft (.fn (.func 169) [] []) [encB a, encB b] H = some (int (cmpB a b), H) := by
  refine call_p (as' := [encB a, encB b]) rfl rfl (by simp) ?_
  unfold c169 r169
  simp only [↓vp, vq0, vq1, vq2, vq3, vr0, vr1, vr2, vr3, vr4, vr5, vr6, vr7, vr8, vr9, vr10, vr11, vr12, vr13, vr14, vr15, vr16, vr17, vr18, vr19, vr20, vr21, vr22, vr23, vr24, vr25, vr26, vr27, vr28, vr29, vr30, vr31, vr32, vr33, vr34, opS, fpS, okP, pack, nAl, allocA, shId, leaves, fillA, fillR, splice, Nat.reduceLT, Nat.reduceEqDiff, Nat.reduceLeDiff, Nat.reduceAdd, Nat.reduceSub, Nat.reduceMul, Int.reduceBEq, Int.reduceBNe, Int.reduceLT, Int.reduceLE, Int.reduceEq, reduceIte, reduceCtorEq, da, int, boolA, RetP_go, resT, resC, resN, retV1, retV2, retV3, retV0, frzFZ, takeM, Option.some.injEq, k183, ha, hb]
theorem k169 {a b : Bytes} (ha : okB a) (hb : okB b) {K : Heap} {L : List Blk} {Q : AV → Heap → Prop} : KW ft (.fn (.func 169) [] []) [encB a, encB b] (hx K L) Q ↔ Q (int (cmpB a b)) (hx K L) := KW_of (s169 ha hb _)
theorem s136 {a b : Bytes} (ha : okB a) (hb : okB b) (H : Heap) : callL ft (.fn (.func 136) [] []) [encB a, encB b] H = some (int (cmpB a b), H) := by
  refine call_p (as' := [encB a, encB b]) rfl rfl (by simp) ?_
  unfold c136 r136
  simp only [↓vp, vq0, vq1, vq2, vq3, vr0, vr1, vr2, vr3, vr4, vr5, vr6, vr7, vr8, vr9, vr10, vr11, vr12, vr13, vr14, vr15, vr16, vr17, vr18, vr19, vr20, vr21, vr22, vr23, vr24, vr25, vr26, vr27, vr28, vr29, vr30, vr31, vr32, vr33, vr34, opS, fpS, okP, pack, nAl, allocA, shId, leaves, fillA, fillR, splice, Nat.reduceLT, Nat.reduceEqDiff, Nat.reduceLeDiff, Nat.reduceAdd, Nat.reduceSub, Nat.reduceMul, Int.reduceBEq, Int.reduceBNe, Int.reduceLT, Int.reduceLE, Int.reduceEq, reduceIte, reduceCtorEq, da, int, boolA, RetP_go, resT, resC, resN, retV1, retV2, retV3, retV0, frzFZ, takeM, Option.some.injEq, k169, ha, hb]
theorem k136 {a b : Bytes} (ha : okB a) (hb : okB b) {K : Heap} {L : List Blk} {Q : AV → Heap → Prop} : KW ft (.fn (.func 136) [] []) [encB a, encB b] (hx K L) Q ↔ Q (int (cmpB a b)) (hx K L) := KW_of (s136 ha hb _)
theorem s135 {x : ItemM} {b : Bytes} (ha : okB x.key) (hb : okB b) (H : Heap) : callL ft (.fn (.func 135) [] []) [.agg (itemC x), encB b] H = some (int (cmpB x.key b), H) := by
  refine call_p (as' := [.agg (itemC x), encB b]) rfl rfl (by simp) ?_
  unfold c135 r135
  simp only [↓vp, vq0, vq1, vq2, vq3, vr0, vr1, vr2, vr3, vr4, vr5, vr6, vr7, vr8, vr9, vr10, vr11, vr12, vr13, vr14, vr15, vr16, vr17, vr18, vr19, vr20, vr21, vr22, vr23, vr24, vr25, vr26, vr27, vr28, vr29, vr30, vr31, vr32, vr33, vr34, opS, fpS, okP, pack, nAl, allocA, shId, leaves, fillA, fillR, splice, Nat.reduceLT, Nat.reduceEqDiff, Nat.reduceLeDiff, Nat.reduceAdd, Nat.reduceSub, Nat.reduceMul, Int.reduceBEq, Int.reduceBNe, Int.reduceLT, Int.reduceLE, Int.reduceEq, reduceIte, reduceCtorEq, da, int, boolA, RetP_go, resT, resC, resN, retV1, retV2, retV3, retV0, frzFZ, takeM, Option.some.injEq, k136, ha, hb]
theorem k135 {x : ItemM} {b : Bytes} (ha : okB x.key) (hb : okB b) {K : Heap} {L : List Blk} {Q : AV → Heap → Prop} : KW ft (.fn (.func 135) [] []) [.agg (itemC x), encB b] (hx K L) Q ↔ Q (int (cmpB x.key b)) (hx K L) := KW_of (s135 ha hb _)
/-- Where it stops: between i and j. -/
def bsG (l : List ItemM) (key : Bytes) : Nat → Nat → Nat → Nat
  | 0, i, _ => i
  | n + 1, i, j => if i < j then (if cmpB ((l[(i + j) / 2]?).elim [] (·.key)) key < 0 then bsG l key n ((i + j) / 2 + 1) j else bsG l key n i ((i + j) / 2)) else i
def bsM (l : List ItemM) (key : Bytes) : Nat := bsG l key (l.length + 1) 0 l.length
theorem bin_shr1 (t : TypeId) (a : Int) : binA .shr t (.sc (.int .u64 a)) (.sc (.int .u64 1)) = some (.sc (.int .u64 (a.fdiv 2))) := by
  simp [binA, binOp, Op.shift, pureRun, ofScalar, isSc, pure, IntKind.bits]
theorem u64_in {n : Int} (h : 0 ≤ n ∧ n < 18446744073709551616) : IntKind.u64.wrap n = n := by
  simp only [IntKind.wrap, IntKind.bits, IntKind.signed]
  simp
  omega
theorem l134 (l : List ItemM) (key : Bytes) (hl : okI l) (hl2 : l.length < 4000000000000000000) (hk : okB key) {Q : AExit → Env → Heap → Prop}
   (hex : ∀ f', f' 0 = encI l → f' 1 = encB key → f' 2 = .fn (.func 135) [] [] → f' 8 = int l.length → f' 9 = int (bsM l key) → Q (.exit 0) (mkE 49 f') (hx Heap.empty [])) :
   ∀ (n i j : Nat) (f : Nat → AV), j < i + n → i ≤ j → j ≤ l.length → bsM l key = bsG l key n i j → f 0 = encI l → f 1 = encB key → f 2 = .fn (.func 135) [] [] → f 8 = int l.length → f 9 = int i → f 10 = int j →
    AW ft (.loop c134L0) (mkE 49 f) (hx Heap.empty []) Q := by
  intro n
  induction n with
  | zero => intro i j f hn hij; omega
  | succ n ih =>
    intro i j f hn hij hjl hc h0 h1 h2 h8 h9 h10
    rw [AW_loop]
    unfold c134L0
    by_cases hlt : i < j
    · have g : ((i : Int) < j) = True := by simp; omega
      have gi : (i + j) / 2 < l.length := by omega
      have w1 := wrap_succ (show (i + j) / 2 < 9223372036854775807 by omega)
      simp only [↓vp, vq0, vq1, vq2, vq3, vr0, vr1, vr2, vr3, vr4, vr5, vr6, vr7, vr8, vr9, vr10, vr11, vr12, vr13, vr14, vr15, vr16, vr17, vr18, vr19, vr20, vr21, vr22, vr23, vr24, vr25, vr26, vr27, vr28, vr29, vr30, vr31, vr32, vr33, vr34, opS, fpS, okP, pack, nAl, allocA, shId, leaves, fillA, fillR, splice, Nat.reduceLT, Nat.reduceEqDiff, Nat.reduceLeDiff, Nat.reduceAdd, Nat.reduceSub, Nat.reduceMul, Int.reduceBEq, Int.reduceBNe, Int.reduceLT, Int.reduceLE, Int.reduceEq, reduceIte, reduceCtorEq, da, int, boolA, h0, h1, h2, h8, h9, h10, g]
      have q1 : IntKind.u64.wrap (IntKind.i64.wrap ((i : Int) + j)) = ((i + j : Nat) : Int) := by
        rw [wrap_i64 (by omega), u64_in (by omega)]; omega
      have q2 : ((i + j : Nat) : Int).fdiv 2 = (((i + j) / 2 : Nat) : Int) := by
        rw [Int.fdiv_eq_ediv_of_nonneg _ (by omega)]; omega
      have q3 : IntKind.i64.wrap (((i + j) / 2 : Nat) : Int) = (((i + j) / 2 : Nat) : Int) := wrap_i64 (by omega)
      have hx1 := (hl.at_ gi).k
      have hel : (l[(i + j) / 2]?).elim [] (·.key) = l[(i + j) / 2].key := by rw [List.getElem?_eq_getElem gi]; rfl
      rw [bsG, if_pos hlt, hel] at hc
      by_cases e1 : cmpB l[(i + j) / 2].key key < 0
      · rw [if_pos e1] at hc
        simp only [↓vp, vq0, vq1, vq2, vq3, vr0, vr1, vr2, vr3, vr4, vr5, vr6, vr7, vr8, vr9, vr10, vr11, vr12, vr13, vr14, vr15, vr16, vr17, vr18, vr19, vr20, vr21, vr22, vr23, vr24, vr25, vr26, vr27, vr28, vr29, vr30, vr31, vr32, vr33, vr34, opS, fpS, okP, pack, nAl, allocA, shId, leaves, fillA, fillR, splice, Nat.reduceLT, Nat.reduceEqDiff, Nat.reduceLeDiff, Nat.reduceAdd, Nat.reduceSub, Nat.reduceMul, Int.reduceBEq, Int.reduceBNe, Int.reduceLT, Int.reduceLE, Int.reduceEq, reduceIte, reduceCtorEq, da, int, boolA, h0, h1, h2, h8, h9, h10, g, q1, q2, q3, bin_shr1, atI gi, cI gi, k135, hx1, hk, e1, w1]
        refine ih ((i + j) / 2 + 1) j _ (by omega) (by omega) hjl hc ?_ ?_ ?_ ?_ ?_ ?_ <;> simp only [↓vp, vq0, vq1, vq2, vq3, vr0, vr1, vr2, vr3, vr4, vr5, vr6, vr7, vr8, vr9, vr10, vr11, vr12, vr13, vr14, vr15, vr16, vr17, vr18, vr19, vr20, vr21, vr22, vr23, vr24, vr25, vr26, vr27, vr28, vr29, vr30, vr31, vr32, vr33, vr34, opS, fpS, okP, pack, nAl, allocA, shId, leaves, fillA, fillR, splice, Nat.reduceLT, Nat.reduceEqDiff, Nat.reduceLeDiff, Nat.reduceAdd, Nat.reduceSub, Nat.reduceMul, Int.reduceBEq, Int.reduceBNe, Int.reduceLT, Int.reduceLE, Int.reduceEq, reduceIte, reduceCtorEq, da, int, boolA, h0, h1, h2, h8, h9, h10]
      · rw [if_neg e1] at hc
        simp only [↓vp, vq0, vq1, vq2, vq3, vr0, vr1, vr2, vr3, vr4, vr5, vr6, vr7, vr8, vr9, vr10, vr11, vr12, vr13, vr14, vr15, vr16, vr17, vr18, vr19, vr20, vr21, vr22, vr23, vr24, vr25, vr26, vr27, vr28, vr29, vr30, vr31, vr32, vr33, vr34, opS, fpS, okP, pack, nAl, allocA, shId, leaves, fillA, fillR, splice, Nat.reduceLT, Nat.reduceEqDiff, Nat.reduceLeDiff, Nat.reduceAdd, Nat.reduceSub, Nat.reduceMul, Int.reduceBEq, Int.reduceBNe, Int.reduceLT, Int.reduceLE, Int.reduceEq, reduceIte, reduceCtorEq, da, int, boolA, h0, h1, h2, h8, h9, h10, g, q1, q2, q3, bin_shr1, atI gi, cI gi, k135, hx1, hk, e1, w1]
        refine ih i ((i + j) / 2) _ (by omega) (by omega) (by omega) hc ?_ ?_ ?_ ?_ ?_ ?_ <;> simp only [↓vp, vq0, vq1, vq2, vq3, vr0, vr1, vr2, vr3, vr4, vr5, vr6, vr7, vr8, vr9, vr10, vr11, vr12, vr13, vr14, vr15, vr16, vr17, vr18, vr19, vr20, vr21, vr22, vr23, vr24, vr25, vr26, vr27, vr28, vr29, vr30, vr31, vr32, vr33, vr34, opS, fpS, okP, pack, nAl, allocA, shId, leaves, fillA, fillR, splice, Nat.reduceLT, Nat.reduceEqDiff, Nat.reduceLeDiff, Nat.reduceAdd, Nat.reduceSub, Nat.reduceMul, Int.reduceBEq, Int.reduceBNe, Int.reduceLT, Int.reduceLE, Int.reduceEq, reduceIte, reduceCtorEq, da, int, boolA, h0, h1, h2, h8, h9, h10]
    · have g : ((i : Int) < j) = False := by simp; omega
      rw [bsG, if_neg hlt] at hc
      simp only [↓vp, vq0, vq1, vq2, vq3, vr0, vr1, vr2, vr3, vr4, vr5, vr6, vr7, vr8, vr9, vr10, vr11, vr12, vr13, vr14, vr15, vr16, vr17, vr18, vr19, vr20, vr21, vr22, vr23, vr24, vr25, vr26, vr27, vr28, vr29, vr30, vr31, vr32, vr33, vr34, opS, fpS, okP, pack, nAl, allocA, shId, leaves, fillA, fillR, splice, Nat.reduceLT, Nat.reduceEqDiff, Nat.reduceLeDiff, Nat.reduceAdd, Nat.reduceSub, Nat.reduceMul, Int.reduceBEq, Int.reduceBNe, Int.reduceLT, Int.reduceLE, Int.reduceEq, reduceIte, reduceCtorEq, da, int, boolA, h9, h10, g]
      refine hex _ ?_ ?_ ?_ ?_ ?_ <;> simp only [↓vp, vq0, vq1, vq2, vq3, vr0, vr1, vr2, vr3, vr4, vr5, vr6, vr7, vr8, vr9, vr10, vr11, vr12, vr13, vr14, vr15, vr16, vr17, vr18, vr19, vr20, vr21, vr22, vr23, vr24, vr25, vr26, vr27, vr28, vr29, vr30, vr31, vr32, vr33, vr34, opS, fpS, okP, pack, nAl, allocA, shId, leaves, fillA, fillR, splice, Nat.reduceLT, Nat.reduceEqDiff, Nat.reduceLeDiff, Nat.reduceAdd, Nat.reduceSub, Nat.reduceMul, Int.reduceBEq, Int.reduceBNe, Int.reduceLT, Int.reduceLE, Int.reduceEq, reduceIte, reduceCtorEq, da, int, boolA, h0, h1, h2, h8, h9, hc]
/-- Does it stand where the search stopped? -/
def bsIs (l : List ItemM) (key : Bytes) : Bool := match l[bsM l key]? with
  | some x => cmpB x.key key == 0
  | none => false
theorem s134 (l : List ItemM) (key : Bytes) (hl : okI l) (hl2 : l.length < 4000000000000000000) (hk : okB key) (H : Heap) : callL ft (.fn (.func 134) [] []) [encI l, encB key, .fn (.func 135) [] []] H = some (.tup [int (bsM l key), boolA (bsIs l key)], H) := by
  refine call_p (as' := [encI l, encB key, .fn (.func 135) [] []]) rfl rfl (by simp) ?_
  unfold c134 r134
  simp only [↓vp, vq0, vq1, vq2, vq3, vr0, vr1, vr2, vr3, vr4, vr5, vr6, vr7, vr8, vr9, vr10, vr11, vr12, vr13, vr14, vr15, vr16, vr17, vr18, vr19, vr20, vr21, vr22, vr23, vr24, vr25, vr26, vr27, vr28, vr29, vr30, vr31, vr32, vr33, vr34, opS, fpS, okP, pack, nAl, allocA, shId, leaves, fillA, fillR, splice, Nat.reduceLT, Nat.reduceEqDiff, Nat.reduceLeDiff, Nat.reduceAdd, Nat.reduceSub, Nat.reduceMul, Int.reduceBEq, Int.reduceBNe, Int.reduceLT, Int.reduceLE, Int.reduceEq, reduceIte, reduceCtorEq, da, int, boolA]
  refine l134 l key hl hl2 hk (fun f' h0 h1 h2 h8 h9 => ?_) (l.length + 1) 0 l.length _ (by omega) (by omega) (by omega) rfl ?_ ?_ ?_ ?_ ?_ ?_
  · unfold c134R1
    by_cases g : bsM l key < l.length
    · have g' : ((bsM l key : Int) < l.length) = True := by simp; omega
      have hx1 := (hl.at_ g).k
      have hel : l[bsM l key]? = some l[bsM l key] := List.getElem?_eq_getElem g
      simp only [↓vp, vq0, vq1, vq2, vq3, vr0, vr1, vr2, vr3, vr4, vr5, vr6, vr7, vr8, vr9, vr10, vr11, vr12, vr13, vr14, vr15, vr16, vr17, vr18, vr19, vr20, vr21, vr22, vr23, vr24, vr25, vr26, vr27, vr28, vr29, vr30, vr31, vr32, vr33, vr34, opS, fpS, okP, pack, nAl, allocA, shId, leaves, fillA, fillR, splice, Nat.reduceLT, Nat.reduceEqDiff, Nat.reduceLeDiff, Nat.reduceAdd, Nat.reduceSub, Nat.reduceMul, Int.reduceBEq, Int.reduceBNe, Int.reduceLT, Int.reduceLE, Int.reduceEq, reduceIte, reduceCtorEq, da, int, boolA, RetP_go, resT, resC, resN, retV1, retV2, retV3, retV0, frzFZ, takeM, Option.some.injEq, h0, h1, h2, h8, h9, g', atI g, cI g, k135, hx1, hk, bsIs, hel]
    · have g' : ((bsM l key : Int) < l.length) = False := by simp; omega
      have hel : l[bsM l key]? = none := List.getElem?_eq_none (by omega)
      simp only [↓vp, vq0, vq1, vq2, vq3, vr0, vr1, vr2, vr3, vr4, vr5, vr6, vr7, vr8, vr9, vr10, vr11, vr12, vr13, vr14, vr15, vr16, vr17, vr18, vr19, vr20, vr21, vr22, vr23, vr24, vr25, vr26, vr27, vr28, vr29, vr30, vr31, vr32, vr33, vr34, opS, fpS, okP, pack, nAl, allocA, shId, leaves, fillA, fillR, splice, Nat.reduceLT, Nat.reduceEqDiff, Nat.reduceLeDiff, Nat.reduceAdd, Nat.reduceSub, Nat.reduceMul, Int.reduceBEq, Int.reduceBNe, Int.reduceLT, Int.reduceLE, Int.reduceEq, reduceIte, reduceCtorEq, da, int, boolA, RetP_go, resT, resC, resN, retV1, retV2, retV3, retV0, frzFZ, takeM, Option.some.injEq, h0, h1, h2, h8, h9, g', bsIs, hel]
  all_goals first | rfl | (simp only [↓vp, vq0, vq1, vq2, vq3, vr0, vr1, vr2, vr3, vr4, vr5, vr6, vr7, vr8, vr9, vr10, vr11, vr12, vr13, vr14, vr15, vr16, vr17, vr18, vr19, vr20, vr21, vr22, vr23, vr24, vr25, vr26, vr27, vr28, vr29, vr30, vr31, vr32, vr33, vr34, opS, fpS, okP, pack, nAl, allocA, shId, leaves, fillA, fillR, splice, Nat.reduceLT, Nat.reduceEqDiff, Nat.reduceLeDiff, Nat.reduceAdd, Nat.reduceSub, Nat.reduceMul, Int.reduceBEq, Int.reduceBNe, Int.reduceLT, Int.reduceLE, Int.reduceEq, reduceIte, reduceCtorEq, da, int, boolA]; done)
theorem k134 {l : List ItemM} {key : Bytes} (hl : okI l) (hl2 : l.length < 4000000000000000000) (hk : okB key) {K : Heap} {L : List Blk} {Q : AV → Heap → Prop} :
    KW ft (.fn (.func 134) [] []) [encI l, encB key, .fn (.func 135) [] []] (hx K L) Q ↔ Q (.tup [int (bsM l key), boolA (bsIs l key)]) (hx K L) := KW_of (s134 l key hl hl2 hk _)
theorem s76 (n : NodeM) (key : Bytes) (hn : okN n) (hl2 : n.items.length < 4000000000000000000) (hk : okB key) (H : Heap) : callL ft (.fn (.func 76) [] []) [.agg (nodeC n), encB key] H = some (.tup [int (bsM n.items key), boolA (bsIs n.items key)], H) := by
  refine call_p (as' := [.agg (nodeC n), encB key]) rfl rfl (by simp) ?_
  have h1 := hn.i
  unfold c76 r76
  simp only [↓vp, vq0, vq1, vq2, vq3, vr0, vr1, vr2, vr3, vr4, vr5, vr6, vr7, vr8, vr9, vr10, vr11, vr12, vr13, vr14, vr15, vr16, vr17, vr18, vr19, vr20, vr21, vr22, vr23, vr24, vr25, vr26, vr27, vr28, vr29, vr30, vr31, vr32, vr33, vr34, opS, fpS, okP, pack, nAl, allocA, shId, leaves, fillA, fillR, splice, Nat.reduceLT, Nat.reduceEqDiff, Nat.reduceLeDiff, Nat.reduceAdd, Nat.reduceSub, Nat.reduceMul, Int.reduceBEq, Int.reduceBNe, Int.reduceLT, Int.reduceLE, Int.reduceEq, reduceIte, reduceCtorEq, da, int, boolA, RetP_go, resT, resC, resN, retV1, retV2, retV3, retV0, frzFZ, takeM, Option.some.injEq, k134, h1, hl2, hk]
end Go.VI

set_option linter.unusedVariables false
set_option linter.unusedSimpArgs false
set_option maxRecDepth 100000
namespace Go.VI
attribute [local congr] AW_congr OW_congr DW_congr NW_congr VW_congr GW_congr PW_congr KW_congr ite_congr' GV_congr CV_congr
def sideD (l : List KidM) (key : Bytes) : Nat → Nat
  | 0 => 0
  | k + 1 => if 0 < cmpB ((l[k + 1]?).elim [] (·.key)) key then sideD l key k else k + 1
def sideP (l : List KidM) (key : Bytes) : Nat := sideD l key (l.length - 1)
theorem wrap_pred {i : Nat} (h : i < 9223372036854775807) : IntKind.i64.wrap (((i + 1 : Nat) : Int) - 1) = (i : Int) := by
  rw [wrap_i64 (by omega)]; omega
theorem l78 (n : NodeM) (key : Bytes) (hn : okN n) (hk : okB key) {L : List Blk} {Q : AExit → Env → Heap → Prop} (hL : L[0]? = some (.box false (nodeC n)))
   (hex : ∀ f', f' 5 = int (sideP n.kids key) → Q (.exit 0) (mkE 27 f') (hx Heap.empty L)) :
   ∀ (k : Nat) (f : Nat → AV), k < n.kids.length → sideP n.kids key = sideD n.kids key k → f 1 = encB key → f 2 = .ptr 0 0 0 → f 5 = int k →
    AW ft (.loop c78L0) (mkE 27 f) (hx Heap.empty L) Q := by
  intro k
  have hi := hn.k.n
  unfold MX at hi
  induction k with
  | zero =>
    intro f hd hc h1 h2 h5
    rw [AW_loop]
    unfold c78L0
    have g : ((0 : Int) < ((0 : Nat) : Int)) = False := by simp
    simp only [↓vp, vq0, vq1, vq2, vq3, vr0, vr1, vr2, vr3, vr4, vr5, vr6, vr7, vr8, vr9, vr10, vr11, vr12, vr13, vr14, vr15, vr16, vr17, vr18, vr19, vr20, vr21, vr22, vr23, vr24, vr25, vr26, vr27, vr28, vr29, vr30, vr31, vr32, vr33, vr34, opS, fpS, okP, pack, nAl, allocA, shId, leaves, fillA, fillR, splice, Nat.reduceLT, Nat.reduceEqDiff, Nat.reduceLeDiff, Nat.reduceAdd, Nat.reduceSub, Nat.reduceMul, Int.reduceBEq, Int.reduceBNe, Int.reduceLT, Int.reduceLE, Int.reduceEq, reduceIte, reduceCtorEq, da, int, boolA, hL, h1, h2, h5, g]
    refine hex _ ?_
    simp only [↓vp, vq0, vq1, vq2, vq3, vr0, vr1, vr2, vr3, vr4, vr5, vr6, vr7, vr8, vr9, vr10, vr11, vr12, vr13, vr14, vr15, vr16, vr17, vr18, vr19, vr20, vr21, vr22, vr23, vr24, vr25, vr26, vr27, vr28, vr29, vr30, vr31, vr32, vr33, vr34, opS, fpS, okP, pack, nAl, allocA, shId, leaves, fillA, fillR, splice, Nat.reduceLT, Nat.reduceEqDiff, Nat.reduceLeDiff, Nat.reduceAdd, Nat.reduceSub, Nat.reduceMul, Int.reduceBEq, Int.reduceBNe, Int.reduceLT, Int.reduceLE, Int.reduceEq, reduceIte, reduceCtorEq, da, int, boolA, h5, hc, sideD]
  | succ k ih =>
    intro f hd hc h1 h2 h5
    have g : ((0 : Int) < ((k + 1 : Nat) : Int)) = True := eq_true (by omega)
    have hkey := hn.k.at_ hd
    have w1 := wrap_pred (show k < 9223372036854775807 by omega)
    rw [sideD, List.getElem?_eq_getElem hd, Option.elim_some] at hc
    rw [AW_loop]
    unfold c78L0
    by_cases e1 : 0 < cmpB n.kids[k + 1].key key
    · rw [if_pos e1] at hc
      simp only [↓vp, vq0, vq1, vq2, vq3, vr0, vr1, vr2, vr3, vr4, vr5, vr6, vr7, vr8, vr9, vr10, vr11, vr12, vr13, vr14, vr15, vr16, vr17, vr18, vr19, vr20, vr21, vr22, vr23, vr24, vr25, vr26, vr27, vr28, vr29, vr30, vr31, vr32, vr33, vr34, opS, fpS, okP, pack, nAl, allocA, shId, leaves, fillA, fillR, splice, Nat.reduceLT, Nat.reduceEqDiff, Nat.reduceLeDiff, Nat.reduceAdd, Nat.reduceSub, Nat.reduceMul, Int.reduceBEq, Int.reduceBNe, Int.reduceLT, Int.reduceLE, Int.reduceEq, reduceIte, reduceCtorEq, da, int, boolA, hL, h1, h2, h5, g, atK hd, cK hd, k136, hkey, hk, e1, w1]
      refine ih _ (by omega) hc ?_ ?_ ?_ <;> simp only [↓vp, vq0, vq1, vq2, vq3, vr0, vr1, vr2, vr3, vr4, vr5, vr6, vr7, vr8, vr9, vr10, vr11, vr12, vr13, vr14, vr15, vr16, vr17, vr18, vr19, vr20, vr21, vr22, vr23, vr24, vr25, vr26, vr27, vr28, vr29, vr30, vr31, vr32, vr33, vr34, opS, fpS, okP, pack, nAl, allocA, shId, leaves, fillA, fillR, splice, Nat.reduceLT, Nat.reduceEqDiff, Nat.reduceLeDiff, Nat.reduceAdd, Nat.reduceSub, Nat.reduceMul, Int.reduceBEq, Int.reduceBNe, Int.reduceLT, Int.reduceLE, Int.reduceEq, reduceIte, reduceCtorEq, da, int, boolA, h1, h2, h5]
    · rw [if_neg e1] at hc
      simp only [↓vp, vq0, vq1, vq2, vq3, vr0, vr1, vr2, vr3, vr4, vr5, vr6, vr7, vr8, vr9, vr10, vr11, vr12, vr13, vr14, vr15, vr16, vr17, vr18, vr19, vr20, vr21, vr22, vr23, vr24, vr25, vr26, vr27, vr28, vr29, vr30, vr31, vr32, vr33, vr34, opS, fpS, okP, pack, nAl, allocA, shId, leaves, fillA, fillR, splice, Nat.reduceLT, Nat.reduceEqDiff, Nat.reduceLeDiff, Nat.reduceAdd, Nat.reduceSub, Nat.reduceMul, Int.reduceBEq, Int.reduceBNe, Int.reduceLT, Int.reduceLE, Int.reduceEq, reduceIte, reduceCtorEq, da, int, boolA, hL, h1, h2, h5, g, atK hd, cK hd, k136, hkey, hk, e1, w1]
      refine hex _ ?_
      simp only [↓vp, vq0, vq1, vq2, vq3, vr0, vr1, vr2, vr3, vr4, vr5, vr6, vr7, vr8, vr9, vr10, vr11, vr12, vr13, vr14, vr15, vr16, vr17, vr18, vr19, vr20, vr21, vr22, vr23, vr24, vr25, vr26, vr27, vr28, vr29, vr30, vr31, vr32, vr33, vr34, opS, fpS, okP, pack, nAl, allocA, shId, leaves, fillA, fillR, splice, Nat.reduceLT, Nat.reduceEqDiff, Nat.reduceLeDiff, Nat.reduceAdd, Nat.reduceSub, Nat.reduceMul, Int.reduceBEq, Int.reduceBNe, Int.reduceLT, Int.reduceLE, Int.reduceEq, reduceIte, reduceCtorEq, da, int, boolA, h5, hc]
theorem s78 (n : NodeM) (key : Bytes) (hn : okN n) (hk : okB key) (H : Heap) : callL ft (.fn (.func 78) [] []) [.agg (nodeC n), encB key] H = some (int (sideP n.kids key), H) := by
  refine call_p (as' := [.agg (nodeC n), encB key]) rfl rfl (by simp) ?_
  have hi := hn.k.n
  unfold MX at hi
  unfold c78 r78
  simp only [↓vp, vq0, vq1, vq2, vq3, vr0, vr1, vr2, vr3, vr4, vr5, vr6, vr7, vr8, vr9, vr10, vr11, vr12, vr13, vr14, vr15, vr16, vr17, vr18, vr19, vr20, vr21, vr22, vr23, vr24, vr25, vr26, vr27, vr28, vr29, vr30, vr31, vr32, vr33, vr34, opS, fpS, okP, pack, nAl, allocA, shId, leaves, fillA, fillR, splice, Nat.reduceLT, Nat.reduceEqDiff, Nat.reduceLeDiff, Nat.reduceAdd, Nat.reduceSub, Nat.reduceMul, Int.reduceBEq, Int.reduceBNe, Int.reduceLT, Int.reduceLE, Int.reduceEq, reduceIte, reduceCtorEq, da, int, boolA]
  by_cases h0 : n.kids.length = 0
  · have w0 : IntKind.i64.wrap ((n.kids.length : Int) - 1) = -1 := by rw [wrap_i64 (by omega)]; omega
    have g : ((0 : Int) < -1) = False := by simp
    rw [AW_loop, w0]
    unfold c78L0 c78R1
    have hs : sideP n.kids key = 0 := by rw [sideP, h0]; rfl
    simp only [↓vp, vq0, vq1, vq2, vq3, vr0, vr1, vr2, vr3, vr4, vr5, vr6, vr7, vr8, vr9, vr10, vr11, vr12, vr13, vr14, vr15, vr16, vr17, vr18, vr19, vr20, vr21, vr22, vr23, vr24, vr25, vr26, vr27, vr28, vr29, vr30, vr31, vr32, vr33, vr34, opS, fpS, okP, pack, nAl, allocA, shId, leaves, fillA, fillR, splice, Nat.reduceLT, Nat.reduceEqDiff, Nat.reduceLeDiff, Nat.reduceAdd, Nat.reduceSub, Nat.reduceMul, Int.reduceBEq, Int.reduceBNe, Int.reduceLT, Int.reduceLE, Int.reduceEq, reduceIte, reduceCtorEq, da, int, boolA, RetP_go, resT, resC, resN, retV1, retV2, retV3, retV0, frzFZ, takeM, Option.some.injEq, g]
    rw [hs]; rfl
  · refine l78 n key hn hk rfl (fun f' h5 => ?_) (n.kids.length - 1) _ (by omega) rfl ?_ ?_ ?_
    · unfold c78R1
      have g : ((sideP n.kids key : Int) < 0) = False := by simp
      simp only [↓vp, vq0, vq1, vq2, vq3, vr0, vr1, vr2, vr3, vr4, vr5, vr6, vr7, vr8, vr9, vr10, vr11, vr12, vr13, vr14, vr15, vr16, vr17, vr18, vr19, vr20, vr21, vr22, vr23, vr24, vr25, vr26, vr27, vr28, vr29, vr30, vr31, vr32, vr33, vr34, opS, fpS, okP, pack, nAl, allocA, shId, leaves, fillA, fillR, splice, Nat.reduceLT, Nat.reduceEqDiff, Nat.reduceLeDiff, Nat.reduceAdd, Nat.reduceSub, Nat.reduceMul, Int.reduceBEq, Int.reduceBNe, Int.reduceLT, Int.reduceLE, Int.reduceEq, reduceIte, reduceCtorEq, da, int, boolA, RetP_go, resT, resC, resN, retV1, retV2, retV3, retV0, frzFZ, takeM, Option.some.injEq, h5, g]
    · rfl
    · rfl
    · simp only [↓vp, vq0, vq1, vq2, vq3, vr0, vr1, vr2, vr3, vr4, vr5, vr6, vr7, vr8, vr9, vr10, vr11, vr12, vr13, vr14, vr15, vr16, vr17, vr18, vr19, vr20, vr21, vr22, vr23, vr24, vr25, vr26, vr27, vr28, vr29, vr30, vr31, vr32, vr33, vr34, opS, fpS, okP, pack, nAl, allocA, shId, leaves, fillA, fillR, splice, Nat.reduceLT, Nat.reduceEqDiff, Nat.reduceLeDiff, Nat.reduceAdd, Nat.reduceSub, Nat.reduceMul, Int.reduceBEq, Int.reduceBNe, Int.reduceLT, Int.reduceLE, Int.reduceEq, reduceIte, reduceCtorEq, da, int, boolA]
      rw [wrap_i64 (by omega)]
      congr 2
      omega
end Go.VI

set_option linter.unusedVariables false
set_option linter.unusedSimpArgs false
set_option maxRecDepth 100000
namespace Go.VI
attribute [local congr] AW_congr OW_congr DW_congr NW_congr VW_congr GW_congr PW_congr KW_congr ite_congr' GV_congr CV_congr
def gen (g : Int) : Bool := decide (1 ≤ g) && decide (g ≤ 3)
def tr (a b c g : Int) : Int := if g = 1 then a else if g = 2 then b else if g = 3 then c else 0
abbrev mxk : Int → Int := tr 16 20 24
abbrev mxv : Int → Int := tr 400 800 1600
abbrev idw : Int → Int := tr 4 8 8
abbrev hdw : Int → Int := tr 8 16 16
abbrev capG : Int → Int := tr 248 240 240
theorem g_cases (g : Int) : g = 1 ∨ g = 2 ∨ g = 3 ∨ (gen g = false ∧ (g = 1) = False ∧ (g = 2) = False ∧ (g = 3) = False) := by
  by_cases h1 : g = 1
  · exact .inl h1
  by_cases h2 : g = 2
  · exact .inr (.inl h2)
  by_cases h3 : g = 3
  · exact .inr (.inr (.inl h3))
  refine .inr (.inr (.inr ⟨?_, eq_false h1, eq_false h2, eq_false h3⟩))
  unfold gen
  by_cases h : 1 ≤ g
  · have : ¬ g ≤ 3 := by omega
    simp [this]
  · simp [h]
theorem s140 (g : Int) (H : Heap) : callL ft (.fn (.func 140) [] []) [int g] H = some (boolA (gen g), H) := by
  refine call_p (as' := [int g]) rfl rfl (by simp) ?_
  unfold c140 r140 gen
  by_cases h : 1 ≤ g
  · by_cases h2 : g ≤ 3
    · simp only [↓vp, vq0, vq1, vq2, vq3, vr0, vr1, vr2, vr3, vr4, vr5, vr6, vr7, vr8, vr9, vr10, vr11, vr12, vr13, vr14, vr15, vr16, vr17, vr18, vr19, vr20, vr21, vr22, vr23, vr24, vr25, vr26, vr27, vr28, vr29, vr30, vr31, vr32, vr33, vr34, opS, fpS, okP, pack, nAl, allocA, shId, leaves, fillA, fillR, splice, Nat.reduceLT, Nat.reduceEqDiff, Nat.reduceLeDiff, Nat.reduceAdd, Nat.reduceSub, Nat.reduceMul, Int.reduceBEq, Int.reduceBNe, Int.reduceLT, Int.reduceLE, Int.reduceEq, reduceIte, reduceCtorEq, da, int, boolA, RetP_go, resT, resC, resN, retV1, retV2, retV3, retV0, frzFZ, takeM, Option.some.injEq, h, h2, ge_iff_le, decide_true, Bool.and_true]
    · simp only [↓vp, vq0, vq1, vq2, vq3, vr0, vr1, vr2, vr3, vr4, vr5, vr6, vr7, vr8, vr9, vr10, vr11, vr12, vr13, vr14, vr15, vr16, vr17, vr18, vr19, vr20, vr21, vr22, vr23, vr24, vr25, vr26, vr27, vr28, vr29, vr30, vr31, vr32, vr33, vr34, opS, fpS, okP, pack, nAl, allocA, shId, leaves, fillA, fillR, splice, Nat.reduceLT, Nat.reduceEqDiff, Nat.reduceLeDiff, Nat.reduceAdd, Nat.reduceSub, Nat.reduceMul, Int.reduceBEq, Int.reduceBNe, Int.reduceLT, Int.reduceLE, Int.reduceEq, reduceIte, reduceCtorEq, da, int, boolA, RetP_go, resT, resC, resN, retV1, retV2, retV3, retV0, frzFZ, takeM, Option.some.injEq, h, h2, ge_iff_le, decide_true, decide_false, Bool.and_false, Bool.true_and]
  · simp only [↓vp, vq0, vq1, vq2, vq3, vr0, vr1, vr2, vr3, vr4, vr5, vr6, vr7, vr8, vr9, vr10, vr11, vr12, vr13, vr14, vr15, vr16, vr17, vr18, vr19, vr20, vr21, vr22, vr23, vr24, vr25, vr26, vr27, vr28, vr29, vr30, vr31, vr32, vr33, vr34, opS, fpS, okP, pack, nAl, allocA, shId, leaves, fillA, fillR, splice, Nat.reduceLT, Nat.reduceEqDiff, Nat.reduceLeDiff, Nat.reduceAdd, Nat.reduceSub, Nat.reduceMul, Int.reduceBEq, Int.reduceBNe, Int.reduceLT, Int.reduceLE, Int.reduceEq, reduceIte, reduceCtorEq, da, int, boolA, RetP_go, resT, resC, resN, retV1, retV2, retV3, retV0, frzFZ, takeM, Option.some.injEq, h, ge_iff_le, decide_false, Bool.false_and]
theorem k140 {g : Int} {K : Heap} {L : List Blk} {Q : AV → Heap → Prop} : KW ft (.fn (.func 140) [] []) [int g] (hx K L) Q ↔ Q (boolA (gen g)) (hx K L) := KW_of (s140 g _)
theorem s176 (g : Int) (H : Heap) : callL ft (.fn (.func 176) [] []) [int g] H = some (.agg [int (mxk g), int (mxv g), int (idw g), int (hdw g)], H) := by
  refine call_p (as' := [int g]) rfl rfl (by simp) ?_
  unfold c176 r176
  have k1 := fun g K L Q => @k140 g K L Q
  simp only [int] at k1
  have w0 : IntKind.i64.wrap 0 = 0 := rfl
  have w1 : IntKind.i64.wrap 1 = 1 := rfl
  have w2 : IntKind.i64.wrap 2 = 2 := rfl
  rcases g_cases g with rfl | rfl | rfl | ⟨h0, h1, h2, h3⟩
  · simp only [↓vp, vq0, vq1, vq2, vq3, vr0, vr1, vr2, vr3, vr4, vr5, vr6, vr7, vr8, vr9, vr10, vr11, vr12, vr13, vr14, vr15, vr16, vr17, vr18, vr19, vr20, vr21, vr22, vr23, vr24, vr25, vr26, vr27, vr28, vr29, vr30, vr31, vr32, vr33, vr34, opS, fpS, okP, pack, nAl, allocA, shId, leaves, fillA, fillR, splice, Nat.reduceLT, Nat.reduceEqDiff, Nat.reduceLeDiff, Nat.reduceAdd, Nat.reduceSub, Nat.reduceMul, Int.reduceBEq, Int.reduceBNe, Int.reduceLT, Int.reduceLE, Int.reduceEq, reduceIte, reduceCtorEq, da, int, boolA, RetP_go, resT, resC, resN, retV1, retV2, retV3, retV0, frzFZ, takeM, Option.some.injEq, k1, show gen 1 = true from rfl, w0, w1, w2, Int.reduceSub, Int.reduceToNat, Nat.reduceMul, List.drop_succ_cons, List.drop_zero, List.take_succ_cons, List.take_zero, List.length_cons, List.length_nil, List.cons_append, List.nil_append, List.append_nil, List.drop_nil, oneAll]
    rfl
  · simp only [↓vp, vq0, vq1, vq2, vq3, vr0, vr1, vr2, vr3, vr4, vr5, vr6, vr7, vr8, vr9, vr10, vr11, vr12, vr13, vr14, vr15, vr16, vr17, vr18, vr19, vr20, vr21, vr22, vr23, vr24, vr25, vr26, vr27, vr28, vr29, vr30, vr31, vr32, vr33, vr34, opS, fpS, okP, pack, nAl, allocA, shId, leaves, fillA, fillR, splice, Nat.reduceLT, Nat.reduceEqDiff, Nat.reduceLeDiff, Nat.reduceAdd, Nat.reduceSub, Nat.reduceMul, Int.reduceBEq, Int.reduceBNe, Int.reduceLT, Int.reduceLE, Int.reduceEq, reduceIte, reduceCtorEq, da, int, boolA, RetP_go, resT, resC, resN, retV1, retV2, retV3, retV0, frzFZ, takeM, Option.some.injEq, k1, show gen 2 = true from rfl, w0, w1, w2, Int.reduceSub, Int.reduceToNat, Nat.reduceMul, List.drop_succ_cons, List.drop_zero, List.take_succ_cons, List.take_zero, List.length_cons, List.length_nil, List.cons_append, List.nil_append, List.append_nil, List.drop_nil, oneAll]
    rfl
  · simp only [↓vp, vq0, vq1, vq2, vq3, vr0, vr1, vr2, vr3, vr4, vr5, vr6, vr7, vr8, vr9, vr10, vr11, vr12, vr13, vr14, vr15, vr16, vr17, vr18, vr19, vr20, vr21, vr22, vr23, vr24, vr25, vr26, vr27, vr28, vr29, vr30, vr31, vr32, vr33, vr34, opS, fpS, okP, pack, nAl, allocA, shId, leaves, fillA, fillR, splice, Nat.reduceLT, Nat.reduceEqDiff, Nat.reduceLeDiff, Nat.reduceAdd, Nat.reduceSub, Nat.reduceMul, Int.reduceBEq, Int.reduceBNe, Int.reduceLT, Int.reduceLE, Int.reduceEq, reduceIte, reduceCtorEq, da, int, boolA, RetP_go, resT, resC, resN, retV1, retV2, retV3, retV0, frzFZ, takeM, Option.some.injEq, k1, show gen 3 = true from rfl, w0, w1, w2, Int.reduceSub, Int.reduceToNat, Nat.reduceMul, List.drop_succ_cons, List.drop_zero, List.take_succ_cons, List.take_zero, List.length_cons, List.length_nil, List.cons_append, List.nil_append, List.append_nil, List.drop_nil, oneAll]
    rfl
  · simp only [↓vp, vq0, vq1, vq2, vq3, vr0, vr1, vr2, vr3, vr4, vr5, vr6, vr7, vr8, vr9, vr10, vr11, vr12, vr13, vr14, vr15, vr16, vr17, vr18, vr19, vr20, vr21, vr22, vr23, vr24, vr25, vr26, vr27, vr28, vr29, vr30, vr31, vr32, vr33, vr34, opS, fpS, okP, pack, nAl, allocA, shId, leaves, fillA, fillR, splice, Nat.reduceLT, Nat.reduceEqDiff, Nat.reduceLeDiff, Nat.reduceAdd, Nat.reduceSub, Nat.reduceMul, Int.reduceBEq, Int.reduceBNe, Int.reduceLT, Int.reduceLE, Int.reduceEq, reduceIte, reduceCtorEq, da, int, boolA, RetP_go, resT, resC, resN, retV1, retV2, retV3, retV0, frzFZ, takeM, Option.some.injEq, k1, h0, mxk, mxv, idw, hdw, tr, h1, h2, h3]
theorem k176 {g : Int} {K : Heap} {L : List Blk} {Q : AV → Heap → Prop} : KW ft (.fn (.func 176) [] []) [int g] (hx K L) Q ↔ Q (.agg [int (mxk g), int (mxv g), int (idw g), int (hdw g)]) (hx K L) := KW_of (s176 g _)
theorem s175 (g : Int) (H : Heap) : callL ft (.fn (.func 175) [] []) [int g] H = some (int (idw g), H) := by
  refine call_p (as' := [int g]) rfl rfl (by simp) ?_
  unfold c175 r175
  have k1 := fun g K L Q => @k176 g K L Q
  simp only [int] at k1
  simp only [↓vp, vq0, vq1, vq2, vq3, vr0, vr1, vr2, vr3, vr4, vr5, vr6, vr7, vr8, vr9, vr10, vr11, vr12, vr13, vr14, vr15, vr16, vr17, vr18, vr19, vr20, vr21, vr22, vr23, vr24, vr25, vr26, vr27, vr28, vr29, vr30, vr31, vr32, vr33, vr34, opS, fpS, okP, pack, nAl, allocA, shId, leaves, fillA, fillR, splice, Nat.reduceLT, Nat.reduceEqDiff, Nat.reduceLeDiff, Nat.reduceAdd, Nat.reduceSub, Nat.reduceMul, Int.reduceBEq, Int.reduceBNe, Int.reduceLT, Int.reduceLE, Int.reduceEq, reduceIte, reduceCtorEq, da, int, boolA, RetP_go, resT, resC, resN, retV1, retV2, retV3, retV0, frzFZ, takeM, Option.some.injEq, k1]
theorem k175 {g : Int} {K : Heap} {L : List Blk} {Q : AV → Heap → Prop} : KW ft (.fn (.func 175) [] []) [int g] (hx K L) Q ↔ Q (int (idw g)) (hx K L) := KW_of (s175 g _)
theorem s146 (g : Int) (H : Heap) : callL ft (.fn (.func 146) [] []) [int g] H = some (int (hdw g), H) := by
  refine call_p (as' := [int g]) rfl rfl (by simp) ?_
  unfold c146 r146
  have k1 := fun g K L Q => @k176 g K L Q
  simp only [int] at k1
  simp only [↓vp, vq0, vq1, vq2, vq3, vr0, vr1, vr2, vr3, vr4, vr5, vr6, vr7, vr8, vr9, vr10, vr11, vr12, vr13, vr14, vr15, vr16, vr17, vr18, vr19, vr20, vr21, vr22, vr23, vr24, vr25, vr26, vr27, vr28, vr29, vr30, vr31, vr32, vr33, vr34, opS, fpS, okP, pack, nAl, allocA, shId, leaves, fillA, fillR, splice, Nat.reduceLT, Nat.reduceEqDiff, Nat.reduceLeDiff, Nat.reduceAdd, Nat.reduceSub, Nat.reduceMul, Int.reduceBEq, Int.reduceBNe, Int.reduceLT, Int.reduceLE, Int.reduceEq, reduceIte, reduceCtorEq, da, int, boolA, RetP_go, resT, resC, resN, retV1, retV2, retV3, retV0, frzFZ, takeM, Option.some.injEq, k1]
theorem k146 {g : Int} {K : Heap} {L : List Blk} {Q : AV → Heap → Prop} : KW ft (.fn (.func 146) [] []) [int g] (hx K L) Q ↔ Q (int (hdw g)) (hx K L) := KW_of (s146 g _)
theorem s170 (g : Int) (H : Heap) : callL ft (.fn (.func 170) [] []) [int g] H = some (int (mxk g), H) := by
  refine call_p (as' := [int g]) rfl rfl (by simp) ?_
  unfold c170 r170
  have k1 := fun g K L Q => @k176 g K L Q
  simp only [int] at k1
  simp only [↓vp, vq0, vq1, vq2, vq3, vr0, vr1, vr2, vr3, vr4, vr5, vr6, vr7, vr8, vr9, vr10, vr11, vr12, vr13, vr14, vr15, vr16, vr17, vr18, vr19, vr20, vr21, vr22, vr23, vr24, vr25, vr26, vr27, vr28, vr29, vr30, vr31, vr32, vr33, vr34, opS, fpS, okP, pack, nAl, allocA, shId, leaves, fillA, fillR, splice, Nat.reduceLT, Nat.reduceEqDiff, Nat.reduceLeDiff, Nat.reduceAdd, Nat.reduceSub, Nat.reduceMul, Int.reduceBEq, Int.reduceBNe, Int.reduceLT, Int.reduceLE, Int.reduceEq, reduceIte, reduceCtorEq, da, int, boolA, RetP_go, resT, resC, resN, retV1, retV2, retV3, retV0, frzFZ, takeM, Option.some.injEq, k1]
theorem k170 {g : Int} {K : Heap} {L : List Blk} {Q : AV → Heap → Prop} : KW ft (.fn (.func 170) [] []) [int g] (hx K L) Q ↔ Q (int (mxk g)) (hx K L) := KW_of (s170 g _)
theorem s186 (g : Int) (H : Heap) : callL ft (.fn (.func 186) [] []) [int g] H = some (int (mxv g), H) := by
  refine call_p (as' := [int g]) rfl rfl (by simp) ?_
  unfold c186 r186
  have k1 := fun g K L Q => @k176 g K L Q
  simp only [int] at k1
  simp only [↓vp, vq0, vq1, vq2, vq3, vr0, vr1, vr2, vr3, vr4, vr5, vr6, vr7, vr8, vr9, vr10, vr11, vr12, vr13, vr14, vr15, vr16, vr17, vr18, vr19, vr20, vr21, vr22, vr23, vr24, vr25, vr26, vr27, vr28, vr29, vr30, vr31, vr32, vr33, vr34, opS, fpS, okP, pack, nAl, allocA, shId, leaves, fillA, fillR, splice, Nat.reduceLT, Nat.reduceEqDiff, Nat.reduceLeDiff, Nat.reduceAdd, Nat.reduceSub, Nat.reduceMul, Int.reduceBEq, Int.reduceBNe, Int.reduceLT, Int.reduceLE, Int.reduceEq, reduceIte, reduceCtorEq, da, int, boolA, RetP_go, resT, resC, resN, retV1, retV2, retV3, retV0, frzFZ, takeM, Option.some.injEq, k1]
theorem k186 {g : Int} {K : Heap} {L : List Blk} {Q : AV → Heap → Prop} : KW ft (.fn (.func 186) [] []) [int g] (hx K L) Q ↔ Q (int (mxv g)) (hx K L) := KW_of (s186 g _)
theorem s90 (g : Int) (H : Heap) : callL ft (.fn (.func 90) [] []) [int g] H = some (int (capG g), H) := by
  refine call_p (as' := [int g]) rfl rfl (by simp) ?_
  unfold c90 r90
  have k1 := fun g K L Q => @k140 g K L Q
  have k2 := fun g K L Q => @k146 g K L Q
  simp only [int] at k1 k2
  rcases g_cases g with rfl | rfl | rfl | ⟨h0, h1, h2, h3⟩
  · simp only [↓vp, vq0, vq1, vq2, vq3, vr0, vr1, vr2, vr3, vr4, vr5, vr6, vr7, vr8, vr9, vr10, vr11, vr12, vr13, vr14, vr15, vr16, vr17, vr18, vr19, vr20, vr21, vr22, vr23, vr24, vr25, vr26, vr27, vr28, vr29, vr30, vr31, vr32, vr33, vr34, opS, fpS, okP, pack, nAl, allocA, shId, leaves, fillA, fillR, splice, Nat.reduceLT, Nat.reduceEqDiff, Nat.reduceLeDiff, Nat.reduceAdd, Nat.reduceSub, Nat.reduceMul, Int.reduceBEq, Int.reduceBNe, Int.reduceLT, Int.reduceLE, Int.reduceEq, reduceIte, reduceCtorEq, da, int, boolA, RetP_go, resT, resC, resN, retV1, retV2, retV3, retV0, frzFZ, takeM, Option.some.injEq, k1, k2, show gen 1 = true from rfl]
    rfl
  · simp only [↓vp, vq0, vq1, vq2, vq3, vr0, vr1, vr2, vr3, vr4, vr5, vr6, vr7, vr8, vr9, vr10, vr11, vr12, vr13, vr14, vr15, vr16, vr17, vr18, vr19, vr20, vr21, vr22, vr23, vr24, vr25, vr26, vr27, vr28, vr29, vr30, vr31, vr32, vr33, vr34, opS, fpS, okP, pack, nAl, allocA, shId, leaves, fillA, fillR, splice, Nat.reduceLT, Nat.reduceEqDiff, Nat.reduceLeDiff, Nat.reduceAdd, Nat.reduceSub, Nat.reduceMul, Int.reduceBEq, Int.reduceBNe, Int.reduceLT, Int.reduceLE, Int.reduceEq, reduceIte, reduceCtorEq, da, int, boolA, RetP_go, resT, resC, resN, retV1, retV2, retV3, retV0, frzFZ, takeM, Option.some.injEq, k1, k2, show gen 2 = true from rfl]
    rfl
  · simp only [↓vp, vq0, vq1, vq2, vq3, vr0, vr1, vr2, vr3, vr4, vr5, vr6, vr7, vr8, vr9, vr10, vr11, vr12, vr13, vr14, vr15, vr16, vr17, vr18, vr19, vr20, vr21, vr22, vr23, vr24, vr25, vr26, vr27, vr28, vr29, vr30, vr31, vr32, vr33, vr34, opS, fpS, okP, pack, nAl, allocA, shId, leaves, fillA, fillR, splice, Nat.reduceLT, Nat.reduceEqDiff, Nat.reduceLeDiff, Nat.reduceAdd, Nat.reduceSub, Nat.reduceMul, Int.reduceBEq, Int.reduceBNe, Int.reduceLT, Int.reduceLE, Int.reduceEq, reduceIte, reduceCtorEq, da, int, boolA, RetP_go, resT, resC, resN, retV1, retV2, retV3, retV0, frzFZ, takeM, Option.some.injEq, k1, k2, show gen 3 = true from rfl]
    rfl
  · simp only [↓vp, vq0, vq1, vq2, vq3, vr0, vr1, vr2, vr3, vr4, vr5, vr6, vr7, vr8, vr9, vr10, vr11, vr12, vr13, vr14, vr15, vr16, vr17, vr18, vr19, vr20, vr21, vr22, vr23, vr24, vr25, vr26, vr27, vr28, vr29, vr30, vr31, vr32, vr33, vr34, opS, fpS, okP, pack, nAl, allocA, shId, leaves, fillA, fillR, splice, Nat.reduceLT, Nat.reduceEqDiff, Nat.reduceLeDiff, Nat.reduceAdd, Nat.reduceSub, Nat.reduceMul, Int.reduceBEq, Int.reduceBNe, Int.reduceLT, Int.reduceLE, Int.reduceEq, reduceIte, reduceCtorEq, da, int, boolA, RetP_go, resT, resC, resN, retV1, retV2, retV3, retV0, frzFZ, takeM, Option.some.injEq, k1, h0, capG, tr, h1, h2, h3]
theorem k90 {g : Int} {K : Heap} {L : List Blk} {Q : AV → Heap → Prop} : KW ft (.fn (.func 90) [] []) [int g] (hx K L) Q ↔ Q (int (capG g)) (hx K L) := KW_of (s90 g _)
def farM (x : ItemM) : Bool := x.ref != 0 || decide (32 < x.value.length)
theorem s174 (x : ItemM) (H : Heap) : callL ft (.fn (.func 174) [] []) [.agg (itemC x)] H = some (boolA (farM x), H) := by
  refine call_p (as' := [.agg (itemC x)]) rfl rfl (by simp) ?_
  unfold c174 r174 farM
  cases h : x.ref != 0 with
  | true => simp only [↓vp, vq0, vq1, vq2, vq3, vr0, vr1, vr2, vr3, vr4, vr5, vr6, vr7, vr8, vr9, vr10, vr11, vr12, vr13, vr14, vr15, vr16, vr17, vr18, vr19, vr20, vr21, vr22, vr23, vr24, vr25, vr26, vr27, vr28, vr29, vr30, vr31, vr32, vr33, vr34, opS, fpS, okP, pack, nAl, allocA, shId, leaves, fillA, fillR, splice, Nat.reduceLT, Nat.reduceEqDiff, Nat.reduceLeDiff, Nat.reduceAdd, Nat.reduceSub, Nat.reduceMul, Int.reduceBEq, Int.reduceBNe, Int.reduceLT, Int.reduceLE, Int.reduceEq, reduceIte, reduceCtorEq, da, int, boolA, RetP_go, resT, resC, resN, retV1, retV2, retV3, retV0, frzFZ, takeM, Option.some.injEq, itemC, h, Bool.true_or]
  | false =>
    have e : ((x.value.length : Int) > 32) = (32 < x.value.length) := by simp only [gt_iff_lt, eq_iff_iff]; omega
    simp only [↓vp, vq0, vq1, vq2, vq3, vr0, vr1, vr2, vr3, vr4, vr5, vr6, vr7, vr8, vr9, vr10, vr11, vr12, vr13, vr14, vr15, vr16, vr17, vr18, vr19, vr20, vr21, vr22, vr23, vr24, vr25, vr26, vr27, vr28, vr29, vr30, vr31, vr32, vr33, vr34, opS, fpS, okP, pack, nAl, allocA, shId, leaves, fillA, fillR, splice, Nat.reduceLT, Nat.reduceEqDiff, Nat.reduceLeDiff, Nat.reduceAdd, Nat.reduceSub, Nat.reduceMul, Int.reduceBEq, Int.reduceBNe, Int.reduceLT, Int.reduceLE, Int.reduceEq, reduceIte, reduceCtorEq, da, int, boolA, RetP_go, resT, resC, resN, retV1, retV2, retV3, retV0, frzFZ, takeM, Option.some.injEq, itemC, h, Bool.false_or, e]
theorem k174 {x : ItemM} {K : Heap} {L : List Blk} {Q : AV → Heap → Prop} : KW ft (.fn (.func 174) [] []) [.agg (itemC x)] (hx K L) Q ↔ Q (boolA (farM x)) (hx K L) := KW_of (s174 x _)
theorem s179 (x : ItemM) (H : Heap) : callL ft (.fn (.func 179) [] []) [.agg (itemC x)] H = some (boolA (farM x), H) := by
  refine call_p (as' := [.agg (itemC x)]) rfl rfl (by simp) ?_
  unfold c179 r179 farM
  cases h : x.ref != 0 with
  | true => simp only [↓vp, vq0, vq1, vq2, vq3, vr0, vr1, vr2, vr3, vr4, vr5, vr6, vr7, vr8, vr9, vr10, vr11, vr12, vr13, vr14, vr15, vr16, vr17, vr18, vr19, vr20, vr21, vr22, vr23, vr24, vr25, vr26, vr27, vr28, vr29, vr30, vr31, vr32, vr33, vr34, opS, fpS, okP, pack, nAl, allocA, shId, leaves, fillA, fillR, splice, Nat.reduceLT, Nat.reduceEqDiff, Nat.reduceLeDiff, Nat.reduceAdd, Nat.reduceSub, Nat.reduceMul, Int.reduceBEq, Int.reduceBNe, Int.reduceLT, Int.reduceLE, Int.reduceEq, reduceIte, reduceCtorEq, da, int, boolA, RetP_go, resT, resC, resN, retV1, retV2, retV3, retV0, frzFZ, takeM, Option.some.injEq, itemC, h, Bool.true_or]
  | false =>
    have e : ((x.value.length : Int) ≥ 33) = (32 < x.value.length) := by simp only [ge_iff_le, eq_iff_iff]; omega
    simp only [↓vp, vq0, vq1, vq2, vq3, vr0, vr1, vr2, vr3, vr4, vr5, vr6, vr7, vr8, vr9, vr10, vr11, vr12, vr13, vr14, vr15, vr16, vr17, vr18, vr19, vr20, vr21, vr22, vr23, vr24, vr25, vr26, vr27, vr28, vr29, vr30, vr31, vr32, vr33, vr34, opS, fpS, okP, pack, nAl, allocA, shId, leaves, fillA, fillR, splice, Nat.reduceLT, Nat.reduceEqDiff, Nat.reduceLeDiff, Nat.reduceAdd, Nat.reduceSub, Nat.reduceMul, Int.reduceBEq, Int.reduceBNe, Int.reduceLT, Int.reduceLE, Int.reduceEq, reduceIte, reduceCtorEq, da, int, boolA, RetP_go, resT, resC, resN, retV1, retV2, retV3, retV0, frzFZ, takeM, Option.some.injEq, itemC, h, Bool.false_or, e]
theorem k179 {x : ItemM} {K : Heap} {L : List Blk} {Q : AV → Heap → Prop} : KW ft (.fn (.func 179) [] []) [.agg (itemC x)] (hx K L) Q ↔ Q (boolA (farM x)) (hx K L) := KW_of (s179 x _)
theorem s149 (g a b c : Int) (H : Heap) : callL ft (.fn (.func 149) [] []) [int g, int a, int b, int c] H = some (int (tr a b c g), H) := by
  refine call_p (as' := [int g, int a, int b, int c]) rfl rfl (by simp) ?_
  unfold c149 r149
  rcases g_cases g with rfl | rfl | rfl | ⟨h0, h1, h2, h3⟩
  · simp only [↓vp, vq0, vq1, vq2, vq3, vr0, vr1, vr2, vr3, vr4, vr5, vr6, vr7, vr8, vr9, vr10, vr11, vr12, vr13, vr14, vr15, vr16, vr17, vr18, vr19, vr20, vr21, vr22, vr23, vr24, vr25, vr26, vr27, vr28, vr29, vr30, vr31, vr32, vr33, vr34, opS, fpS, okP, pack, nAl, allocA, shId, leaves, fillA, fillR, splice, Nat.reduceLT, Nat.reduceEqDiff, Nat.reduceLeDiff, Nat.reduceAdd, Nat.reduceSub, Nat.reduceMul, Int.reduceBEq, Int.reduceBNe, Int.reduceLT, Int.reduceLE, Int.reduceEq, reduceIte, reduceCtorEq, da, int, boolA, RetP_go, resT, resC, resN, retV1, retV2, retV3, retV0, frzFZ, takeM, Option.some.injEq]
    rfl
  · simp only [↓vp, vq0, vq1, vq2, vq3, vr0, vr1, vr2, vr3, vr4, vr5, vr6, vr7, vr8, vr9, vr10, vr11, vr12, vr13, vr14, vr15, vr16, vr17, vr18, vr19, vr20, vr21, vr22, vr23, vr24, vr25, vr26, vr27, vr28, vr29, vr30, vr31, vr32, vr33, vr34, opS, fpS, okP, pack, nAl, allocA, shId, leaves, fillA, fillR, splice, Nat.reduceLT, Nat.reduceEqDiff, Nat.reduceLeDiff, Nat.reduceAdd, Nat.reduceSub, Nat.reduceMul, Int.reduceBEq, Int.reduceBNe, Int.reduceLT, Int.reduceLE, Int.reduceEq, reduceIte, reduceCtorEq, da, int, boolA, RetP_go, resT, resC, resN, retV1, retV2, retV3, retV0, frzFZ, takeM, Option.some.injEq]
    rfl
  · simp only [↓vp, vq0, vq1, vq2, vq3, vr0, vr1, vr2, vr3, vr4, vr5, vr6, vr7, vr8, vr9, vr10, vr11, vr12, vr13, vr14, vr15, vr16, vr17, vr18, vr19, vr20, vr21, vr22, vr23, vr24, vr25, vr26, vr27, vr28, vr29, vr30, vr31, vr32, vr33, vr34, opS, fpS, okP, pack, nAl, allocA, shId, leaves, fillA, fillR, splice, Nat.reduceLT, Nat.reduceEqDiff, Nat.reduceLeDiff, Nat.reduceAdd, Nat.reduceSub, Nat.reduceMul, Int.reduceBEq, Int.reduceBNe, Int.reduceLT, Int.reduceLE, Int.reduceEq, reduceIte, reduceCtorEq, da, int, boolA, RetP_go, resT, resC, resN, retV1, retV2, retV3, retV0, frzFZ, takeM, Option.some.injEq]
    rfl
  · have e1 : (g == 1) = false := by simp [h1]
    have e2 : (g == 2) = false := by simp [h2]
    have e3 : (g == 3) = false := by simp [h3]
    simp only [↓vp, vq0, vq1, vq2, vq3, vr0, vr1, vr2, vr3, vr4, vr5, vr6, vr7, vr8, vr9, vr10, vr11, vr12, vr13, vr14, vr15, vr16, vr17, vr18, vr19, vr20, vr21, vr22, vr23, vr24, vr25, vr26, vr27, vr28, vr29, vr30, vr31, vr32, vr33, vr34, opS, fpS, okP, pack, nAl, allocA, shId, leaves, fillA, fillR, splice, Nat.reduceLT, Nat.reduceEqDiff, Nat.reduceLeDiff, Nat.reduceAdd, Nat.reduceSub, Nat.reduceMul, Int.reduceBEq, Int.reduceBNe, Int.reduceLT, Int.reduceLE, Int.reduceEq, reduceIte, reduceCtorEq, da, int, boolA, RetP_go, resT, resC, resN, retV1, retV2, retV3, retV0, frzFZ, takeM, Option.some.injEq, e1, e2, e3, tr, h1, h2, h3]
theorem k149 {g a b c : Int} {K : Heap} {L : List Blk} {Q : AV → Heap → Prop} : KW ft (.fn (.func 149) [] []) [int g, int a, int b, int c] (hx K L) Q ↔ Q (int (tr a b c g)) (hx K L) := KW_of (s149 g a b c _)
theorem s157 (g : Int) (H : Heap) : callL ft (.fn (.func 157) [] []) [int g] H = some (int (idw g), H) := by
  refine call_p (as' := [int g]) rfl rfl (by simp) ?_
  unfold c157 r157
  have k1 := fun g a b c K L Q => @k149 g a b c K L Q
  simp only [int] at k1
  simp only [↓vp, vq0, vq1, vq2, vq3, vr0, vr1, vr2, vr3, vr4, vr5, vr6, vr7, vr8, vr9, vr10, vr11, vr12, vr13, vr14, vr15, vr16, vr17, vr18, vr19, vr20, vr21, vr22, vr23, vr24, vr25, vr26, vr27, vr28, vr29, vr30, vr31, vr32, vr33, vr34, opS, fpS, okP, pack, nAl, allocA, shId, leaves, fillA, fillR, splice, Nat.reduceLT, Nat.reduceEqDiff, Nat.reduceLeDiff, Nat.reduceAdd, Nat.reduceSub, Nat.reduceMul, Int.reduceBEq, Int.reduceBNe, Int.reduceLT, Int.reduceLE, Int.reduceEq, reduceIte, reduceCtorEq, da, int, boolA, RetP_go, resT, resC, resN, retV1, retV2, retV3, retV0, frzFZ, takeM, Option.some.injEq, k1]
theorem k157 {g : Int} {K : Heap} {L : List Blk} {Q : AV → Heap → Prop} : KW ft (.fn (.func 157) [] []) [int g] (hx K L) Q ↔ Q (int (idw g)) (hx K L) := KW_of (s157 g _)
theorem s145 (g : Int) (H : Heap) : callL ft (.fn (.func 145) [] []) [int g] H = some (int (capG g), H) := by
  refine call_p (as' := [int g]) rfl rfl (by simp) ?_
  unfold c145 r145
  have k1 := fun g a b c K L Q => @k149 g a b c K L Q
  simp only [int] at k1
  simp only [↓vp, vq0, vq1, vq2, vq3, vr0, vr1, vr2, vr3, vr4, vr5, vr6, vr7, vr8, vr9, vr10, vr11, vr12, vr13, vr14, vr15, vr16, vr17, vr18, vr19, vr20, vr21, vr22, vr23, vr24, vr25, vr26, vr27, vr28, vr29, vr30, vr31, vr32, vr33, vr34, opS, fpS, okP, pack, nAl, allocA, shId, leaves, fillA, fillR, splice, Nat.reduceLT, Nat.reduceEqDiff, Nat.reduceLeDiff, Nat.reduceAdd, Nat.reduceSub, Nat.reduceMul, Int.reduceBEq, Int.reduceBNe, Int.reduceLT, Int.reduceLE, Int.reduceEq, reduceIte, reduceCtorEq, da, int, boolA, RetP_go, resT, resC, resN, retV1, retV2, retV3, retV0, frzFZ, takeM, Option.some.injEq, k1]
theorem k145 {g : Int} {K : Heap} {L : List Blk} {Q : AV → Heap → Prop} : KW ft (.fn (.func 145) [] []) [int g] (hx K L) Q ↔ Q (int (capG g)) (hx K L) := KW_of (s145 g _)
theorem s99 (g : Int) (H : Heap) : callL ft (.fn (.func 99) [] []) [int g] H = some (int (mxk g), H) := by
  refine call_p (as' := [int g]) rfl rfl (by simp) ?_
  unfold c99 r99
  have k1 := fun g a b c K L Q => @k149 g a b c K L Q
  simp only [int] at k1
  simp only [↓vp, vq0, vq1, vq2, vq3, vr0, vr1, vr2, vr3, vr4, vr5, vr6, vr7, vr8, vr9, vr10, vr11, vr12, vr13, vr14, vr15, vr16, vr17, vr18, vr19, vr20, vr21, vr22, vr23, vr24, vr25, vr26, vr27, vr28, vr29, vr30, vr31, vr32, vr33, vr34, opS, fpS, okP, pack, nAl, allocA, shId, leaves, fillA, fillR, splice, Nat.reduceLT, Nat.reduceEqDiff, Nat.reduceLeDiff, Nat.reduceAdd, Nat.reduceSub, Nat.reduceMul, Int.reduceBEq, Int.reduceBNe, Int.reduceLT, Int.reduceLE, Int.reduceEq, reduceIte, reduceCtorEq, da, int, boolA, RetP_go, resT, resC, resN, retV1, retV2, retV3, retV0, frzFZ, takeM, Option.some.injEq, k1]
theorem k99 {g : Int} {K : Heap} {L : List Blk} {Q : AV → Heap → Prop} : KW ft (.fn (.func 99) [] []) [int g] (hx K L) Q ↔ Q (int (mxk g)) (hx K L) := KW_of (s99 g _)
theorem s100 (g : Int) (H : Heap) : callL ft (.fn (.func 100) [] []) [int g] H = some (int (mxv g), H) := by
  refine call_p (as' := [int g]) rfl rfl (by simp) ?_
  unfold c100 r100
  have k1 := fun g a b c K L Q => @k149 g a b c K L Q
  simp only [int] at k1
  simp only [↓vp, vq0, vq1, vq2, vq3, vr0, vr1, vr2, vr3, vr4, vr5, vr6, vr7, vr8, vr9, vr10, vr11, vr12, vr13, vr14, vr15, vr16, vr17, vr18, vr19, vr20, vr21, vr22, vr23, vr24, vr25, vr26, vr27, vr28, vr29, vr30, vr31, vr32, vr33, vr34, opS, fpS, okP, pack, nAl, allocA, shId, leaves, fillA, fillR, splice, Nat.reduceLT, Nat.reduceEqDiff, Nat.reduceLeDiff, Nat.reduceAdd, Nat.reduceSub, Nat.reduceMul, Int.reduceBEq, Int.reduceBNe, Int.reduceLT, Int.reduceLE, Int.reduceEq, reduceIte, reduceCtorEq, da, int, boolA, RetP_go, resT, resC, resN, retV1, retV2, retV3, retV0, frzFZ, takeM, Option.some.injEq, k1]
theorem k100 {g : Int} {K : Heap} {L : List Blk} {Q : AV → Heap → Prop} : KW ft (.fn (.func 100) [] []) [int g] (hx K L) Q ↔ Q (int (mxv g)) (hx K L) := KW_of (s100 g _)
end Go.VI

set_option linter.unusedVariables false
set_option linter.unusedSimpArgs false
set_option maxRecDepth 100000
namespace Go.VI
attribute [local congr] AW_congr OW_congr DW_congr NW_congr VW_congr GW_congr PW_congr KW_congr ite_congr' GV_congr CV_congr
def roomI (g : Int) (x : ItemM) : Int := if gen g then (if farM x then 4 + x.key.length + idw g else 4 + x.key.length + x.value.length) else 0
def roomK (g : Int) (key : Bytes) : Int := if gen g then 1 + key.length + idw g else 0
theorem tr_bound {a b c g m : Int} (h : 0 ≤ a ∧ a ≤ m) (h2 : 0 ≤ b ∧ b ≤ m) (h3 : 0 ≤ c ∧ c ≤ m) : 0 ≤ tr a b c g ∧ tr a b c g ≤ m := by
  unfold tr
  split
  · exact h
  split
  · exact h2
  split
  · exact h3
  exact ⟨Int.le_refl 0, by omega⟩
theorem idw_bound (g : Int) : 0 ≤ idw g ∧ idw g ≤ 8 := tr_bound (by decide) (by decide) (by decide)
theorem s143 (g : Int) (x : ItemM) (hx_ : okIt x) (H : Heap) : callL ft (.fn (.func 143) [] []) [int g, .agg (itemC x)] H = some (int (roomI g x), H) := by
  refine call_p (as' := [int g, .agg (itemC x)]) rfl rfl (by simp) ?_
  unfold c143 r143 roomI
  have k1 := fun g K L Q => @k140 g K L Q
  have k2 := fun K L Q => @k174 x K L Q
  have k3 := fun g K L Q => @k175 g K L Q
  have b1 := hx_.k.n
  have b2 := hx_.v.n
  have b3 := idw_bound g
  unfold MX at b1 b2
  have w1 : IntKind.i64.wrap (4 + (x.key.length : Int)) = 4 + x.key.length := wrap_i64 (by omega)
  have w2 : IntKind.i64.wrap (4 + (x.key.length : Int) + x.value.length) = 4 + x.key.length + x.value.length := wrap_i64 (by omega)
  have w3 : IntKind.i64.wrap (4 + (x.key.length : Int) + idw g) = 4 + x.key.length + idw g := wrap_i64 (by omega)
  simp only [int, itemC] at k1 k2 k3
  cases h : gen g with
  | false => simp only [↓vp, vq0, vq1, vq2, vq3, vr0, vr1, vr2, vr3, vr4, vr5, vr6, vr7, vr8, vr9, vr10, vr11, vr12, vr13, vr14, vr15, vr16, vr17, vr18, vr19, vr20, vr21, vr22, vr23, vr24, vr25, vr26, vr27, vr28, vr29, vr30, vr31, vr32, vr33, vr34, opS, fpS, okP, pack, nAl, allocA, shId, leaves, fillA, fillR, splice, Nat.reduceLT, Nat.reduceEqDiff, Nat.reduceLeDiff, Nat.reduceAdd, Nat.reduceSub, Nat.reduceMul, Int.reduceBEq, Int.reduceBNe, Int.reduceLT, Int.reduceLE, Int.reduceEq, reduceIte, reduceCtorEq, da, int, boolA, RetP_go, resT, resC, resN, retV1, retV2, retV3, retV0, frzFZ, takeM, Option.some.injEq, itemC, k1, h]
  | true =>
    cases h2 : farM x with
    | true =>
      simp only [↓vp, vq0, vq1, vq2, vq3, vr0, vr1, vr2, vr3, vr4, vr5, vr6, vr7, vr8, vr9, vr10, vr11, vr12, vr13, vr14, vr15, vr16, vr17, vr18, vr19, vr20, vr21, vr22, vr23, vr24, vr25, vr26, vr27, vr28, vr29, vr30, vr31, vr32, vr33, vr34, opS, fpS, okP, pack, nAl, allocA, shId, leaves, fillA, fillR, splice, Nat.reduceLT, Nat.reduceEqDiff, Nat.reduceLeDiff, Nat.reduceAdd, Nat.reduceSub, Nat.reduceMul, Int.reduceBEq, Int.reduceBNe, Int.reduceLT, Int.reduceLE, Int.reduceEq, reduceIte, reduceCtorEq, da, int, boolA, RetP_go, resT, resC, resN, retV1, retV2, retV3, retV0, frzFZ, takeM, Option.some.injEq, itemC, k1, k2, k3, h, h2, w1, w3]
      rfl
    | false => simp only [↓vp, vq0, vq1, vq2, vq3, vr0, vr1, vr2, vr3, vr4, vr5, vr6, vr7, vr8, vr9, vr10, vr11, vr12, vr13, vr14, vr15, vr16, vr17, vr18, vr19, vr20, vr21, vr22, vr23, vr24, vr25, vr26, vr27, vr28, vr29, vr30, vr31, vr32, vr33, vr34, opS, fpS, okP, pack, nAl, allocA, shId, leaves, fillA, fillR, splice, Nat.reduceLT, Nat.reduceEqDiff, Nat.reduceLeDiff, Nat.reduceAdd, Nat.reduceSub, Nat.reduceMul, Int.reduceBEq, Int.reduceBNe, Int.reduceLT, Int.reduceLE, Int.reduceEq, reduceIte, reduceCtorEq, da, int, boolA, RetP_go, resT, resC, resN, retV1, retV2, retV3, retV0, frzFZ, takeM, Option.some.injEq, itemC, k1, k2, h, h2, w1, w2]
theorem k143 {g : Int} {x : ItemM} (hx_ : okIt x) {K : Heap} {L : List Blk} {Q : AV → Heap → Prop} : KW ft (.fn (.func 143) [] []) [int g, .agg (itemC x)] (hx K L) Q ↔ Q (int (roomI g x)) (hx K L) := KW_of (s143 g x hx_ _)
theorem s144 (g : Int) (key : Bytes) (hk : okB key) (H : Heap) : callL ft (.fn (.func 144) [] []) [int g, encB key] H = some (int (roomK g key), H) := by
  refine call_p (as' := [int g, encB key]) rfl rfl (by simp) ?_
  unfold c144 r144 roomK
  have k1 := fun g K L Q => @k140 g K L Q
  have k3 := fun g K L Q => @k175 g K L Q
  have b1 := hk.n
  have b3 := idw_bound g
  unfold MX at b1
  have w1 : IntKind.i64.wrap (1 + (key.length : Int)) = 1 + key.length := wrap_i64 (by omega)
  have w3 : IntKind.i64.wrap (1 + (key.length : Int) + idw g) = 1 + key.length + idw g := wrap_i64 (by omega)
  simp only [int] at k1 k3
  cases h : gen g with
  | false => simp only [↓vp, vq0, vq1, vq2, vq3, vr0, vr1, vr2, vr3, vr4, vr5, vr6, vr7, vr8, vr9, vr10, vr11, vr12, vr13, vr14, vr15, vr16, vr17, vr18, vr19, vr20, vr21, vr22, vr23, vr24, vr25, vr26, vr27, vr28, vr29, vr30, vr31, vr32, vr33, vr34, opS, fpS, okP, pack, nAl, allocA, shId, leaves, fillA, fillR, splice, Nat.reduceLT, Nat.reduceEqDiff, Nat.reduceLeDiff, Nat.reduceAdd, Nat.reduceSub, Nat.reduceMul, Int.reduceBEq, Int.reduceBNe, Int.reduceLT, Int.reduceLE, Int.reduceEq, reduceIte, reduceCtorEq, da, int, boolA, RetP_go, resT, resC, resN, retV1, retV2, retV3, retV0, frzFZ, takeM, Option.some.injEq, k1, h]
  | true => simp only [↓vp, vq0, vq1, vq2, vq3, vr0, vr1, vr2, vr3, vr4, vr5, vr6, vr7, vr8, vr9, vr10, vr11, vr12, vr13, vr14, vr15, vr16, vr17, vr18, vr19, vr20, vr21, vr22, vr23, vr24, vr25, vr26, vr27, vr28, vr29, vr30, vr31, vr32, vr33, vr34, opS, fpS, okP, pack, nAl, allocA, shId, leaves, fillA, fillR, splice, Nat.reduceLT, Nat.reduceEqDiff, Nat.reduceLeDiff, Nat.reduceAdd, Nat.reduceSub, Nat.reduceMul, Int.reduceBEq, Int.reduceBNe, Int.reduceLT, Int.reduceLE, Int.reduceEq, reduceIte, reduceCtorEq, da, int, boolA, RetP_go, resT, resC, resN, retV1, retV2, retV3, retV0, frzFZ, takeM, Option.some.injEq, k1, k3, h, w1, w3]
theorem k144 {g : Int} {key : Bytes} (hk : okB key) {K : Heap} {L : List Blk} {Q : AV → Heap → Prop} : KW ft (.fn (.func 144) [] []) [int g, encB key] (hx K L) Q ↔ Q (int (roomK g key)) (hx K L) := KW_of (s144 g key hk _)
theorem gen_iff (g : Int) : (g < 1 ∨ 3 < g) ↔ gen g = false := by
  unfold gen
  simp only [Bool.and_eq_false_iff, decide_eq_false_iff_not]
  omega
theorem s156 (g : Int) (x : ItemM) (hx_ : okIt x) (H : Heap) : callL ft (.fn (.func 156) [] []) [int g, .agg (itemC x)] H = some (int (roomI g x), H) := by
  refine call_p (as' := [int g, .agg (itemC x)]) rfl rfl (by simp) ?_
  unfold c156 r156
  have k2 := fun K L Q => @k179 x K L Q
  have k3 := fun g K L Q => @k157 g K L Q
  have b1 := hx_.k.n
  have b2 := hx_.v.n
  have b3 := idw_bound g
  unfold MX at b1 b2
  have w1 : IntKind.i64.wrap ((x.value.length : Int) + x.key.length) = x.value.length + x.key.length := wrap_i64 (by omega)
  have w2 : IntKind.i64.wrap ((x.value.length : Int) + x.key.length + 4) = 4 + x.key.length + x.value.length := by rw [wrap_i64 (by omega)]; omega
  have w3 : IntKind.i64.wrap (idw g + (x.key.length : Int)) = idw g + x.key.length := wrap_i64 (by omega)
  have w4 : IntKind.i64.wrap (idw g + (x.key.length : Int) + 4) = 4 + x.key.length + idw g := by rw [wrap_i64 (by omega)]; omega
  simp only [int, itemC] at k2 k3
  by_cases g1 : g < 1
  · have h := (gen_iff g).1 (.inl g1)
    simp only [↓vp, vq0, vq1, vq2, vq3, vr0, vr1, vr2, vr3, vr4, vr5, vr6, vr7, vr8, vr9, vr10, vr11, vr12, vr13, vr14, vr15, vr16, vr17, vr18, vr19, vr20, vr21, vr22, vr23, vr24, vr25, vr26, vr27, vr28, vr29, vr30, vr31, vr32, vr33, vr34, opS, fpS, okP, pack, nAl, allocA, shId, leaves, fillA, fillR, splice, Nat.reduceLT, Nat.reduceEqDiff, Nat.reduceLeDiff, Nat.reduceAdd, Nat.reduceSub, Nat.reduceMul, Int.reduceBEq, Int.reduceBNe, Int.reduceLT, Int.reduceLE, Int.reduceEq, reduceIte, reduceCtorEq, da, int, boolA, RetP_go, resT, resC, resN, retV1, retV2, retV3, retV0, frzFZ, takeM, Option.some.injEq, itemC, g1, roomI, h]
  by_cases g2 : g > 3
  · have h := (gen_iff g).1 (.inr g2)
    simp only [↓vp, vq0, vq1, vq2, vq3, vr0, vr1, vr2, vr3, vr4, vr5, vr6, vr7, vr8, vr9, vr10, vr11, vr12, vr13, vr14, vr15, vr16, vr17, vr18, vr19, vr20, vr21, vr22, vr23, vr24, vr25, vr26, vr27, vr28, vr29, vr30, vr31, vr32, vr33, vr34, opS, fpS, okP, pack, nAl, allocA, shId, leaves, fillA, fillR, splice, Nat.reduceLT, Nat.reduceEqDiff, Nat.reduceLeDiff, Nat.reduceAdd, Nat.reduceSub, Nat.reduceMul, Int.reduceBEq, Int.reduceBNe, Int.reduceLT, Int.reduceLE, Int.reduceEq, reduceIte, reduceCtorEq, da, int, boolA, RetP_go, resT, resC, resN, retV1, retV2, retV3, retV0, frzFZ, takeM, Option.some.injEq, itemC, g1, g2, roomI, h]
  have h : gen g = true := by
    cases e : gen g with
    | true => rfl
    | false => exact absurd ((gen_iff g).2 e) (by omega)
  cases h2 : farM x with
  | true => simp only [↓vp, vq0, vq1, vq2, vq3, vr0, vr1, vr2, vr3, vr4, vr5, vr6, vr7, vr8, vr9, vr10, vr11, vr12, vr13, vr14, vr15, vr16, vr17, vr18, vr19, vr20, vr21, vr22, vr23, vr24, vr25, vr26, vr27, vr28, vr29, vr30, vr31, vr32, vr33, vr34, opS, fpS, okP, pack, nAl, allocA, shId, leaves, fillA, fillR, splice, Nat.reduceLT, Nat.reduceEqDiff, Nat.reduceLeDiff, Nat.reduceAdd, Nat.reduceSub, Nat.reduceMul, Int.reduceBEq, Int.reduceBNe, Int.reduceLT, Int.reduceLE, Int.reduceEq, reduceIte, reduceCtorEq, da, int, boolA, RetP_go, resT, resC, resN, retV1, retV2, retV3, retV0, frzFZ, takeM, Option.some.injEq, itemC, g1, g2, k2, k3, roomI, h, h2, w3, w4]
  | false => simp only [↓vp, vq0, vq1, vq2, vq3, vr0, vr1, vr2, vr3, vr4, vr5, vr6, vr7, vr8, vr9, vr10, vr11, vr12, vr13, vr14, vr15, vr16, vr17, vr18, vr19, vr20, vr21, vr22, vr23, vr24, vr25, vr26, vr27, vr28, vr29, vr30, vr31, vr32, vr33, vr34, opS, fpS, okP, pack, nAl, allocA, shId, leaves, fillA, fillR, splice, Nat.reduceLT, Nat.reduceEqDiff, Nat.reduceLeDiff, Nat.reduceAdd, Nat.reduceSub, Nat.reduceMul, Int.reduceBEq, Int.reduceBNe, Int.reduceLT, Int.reduceLE, Int.reduceEq, reduceIte, reduceCtorEq, da, int, boolA, RetP_go, resT, resC, resN, retV1, retV2, retV3, retV0, frzFZ, takeM, Option.some.injEq, itemC, g1, g2, k2, k3, roomI, h, h2, w1, w2]
theorem k156 {g : Int} {x : ItemM} (hx_ : okIt x) {K : Heap} {L : List Blk} {Q : AV → Heap → Prop} : KW ft (.fn (.func 156) [] []) [int g, .agg (itemC x)] (hx K L) Q ↔ Q (int (roomI g x)) (hx K L) := KW_of (s156 g x hx_ _)
def longM (x : ItemM) : Int := if x.ref != 0 then x.size else x.value.length
theorem s185 (x : ItemM) (H : Heap) : callL ft (.fn (.func 185) [] []) [.agg (itemC x)] H = some (int (longM x), H) := by
  refine call_p (as' := [.agg (itemC x)]) rfl rfl (by simp) ?_
  unfold c185 r185 longM
  cases h : x.ref != 0 with
  | true => simp only [↓vp, vq0, vq1, vq2, vq3, vr0, vr1, vr2, vr3, vr4, vr5, vr6, vr7, vr8, vr9, vr10, vr11, vr12, vr13, vr14, vr15, vr16, vr17, vr18, vr19, vr20, vr21, vr22, vr23, vr24, vr25, vr26, vr27, vr28, vr29, vr30, vr31, vr32, vr33, vr34, opS, fpS, okP, pack, nAl, allocA, shId, leaves, fillA, fillR, splice, Nat.reduceLT, Nat.reduceEqDiff, Nat.reduceLeDiff, Nat.reduceAdd, Nat.reduceSub, Nat.reduceMul, Int.reduceBEq, Int.reduceBNe, Int.reduceLT, Int.reduceLE, Int.reduceEq, reduceIte, reduceCtorEq, da, int, boolA, RetP_go, resT, resC, resN, retV1, retV2, retV3, retV0, frzFZ, takeM, Option.some.injEq, itemC, h]
  | false => simp only [↓vp, vq0, vq1, vq2, vq3, vr0, vr1, vr2, vr3, vr4, vr5, vr6, vr7, vr8, vr9, vr10, vr11, vr12, vr13, vr14, vr15, vr16, vr17, vr18, vr19, vr20, vr21, vr22, vr23, vr24, vr25, vr26, vr27, vr28, vr29, vr30, vr31, vr32, vr33, vr34, opS, fpS, okP, pack, nAl, allocA, shId, leaves, fillA, fillR, splice, Nat.reduceLT, Nat.reduceEqDiff, Nat.reduceLeDiff, Nat.reduceAdd, Nat.reduceSub, Nat.reduceMul, Int.reduceBEq, Int.reduceBNe, Int.reduceLT, Int.reduceLE, Int.reduceEq, reduceIte, reduceCtorEq, da, int, boolA, RetP_go, resT, resC, resN, retV1, retV2, retV3, retV0, frzFZ, takeM, Option.some.injEq, itemC, h]
theorem k185 {x : ItemM} {K : Heap} {L : List Blk} {Q : AV → Heap → Prop} : KW ft (.fn (.func 185) [] []) [.agg (itemC x)] (hx K L) Q ↔ Q (int (longM x)) (hx K L) := KW_of (s185 x _)
def whyM (g : Int) (key value : Bytes) : Int := if gen g then (if key.length = 0 ∨ mxk g < key.length then 50 else if mxv g < value.length then 51 else 0) else 1
theorem s184 (g : Int) (key value : Bytes) (H : Heap) : callL ft (.fn (.func 184) [] []) [int g, encB key, encB value] H = some (.sc (.int .i64 (whyM g key value)), H) := by
  refine call_p (as' := [int g, encB key, encB value]) rfl rfl (by simp) ?_
  unfold c184 r184 whyM
  have k1 := fun g K L Q => @k140 g K L Q
  have k2 := fun g K L Q => @k170 g K L Q
  have k3 := fun g K L Q => @k186 g K L Q
  simp only [int] at k1 k2 k3
  cases h : gen g with
  | false => simp only [↓vp, vq0, vq1, vq2, vq3, vr0, vr1, vr2, vr3, vr4, vr5, vr6, vr7, vr8, vr9, vr10, vr11, vr12, vr13, vr14, vr15, vr16, vr17, vr18, vr19, vr20, vr21, vr22, vr23, vr24, vr25, vr26, vr27, vr28, vr29, vr30, vr31, vr32, vr33, vr34, opS, fpS, okP, pack, nAl, allocA, shId, leaves, fillA, fillR, splice, Nat.reduceLT, Nat.reduceEqDiff, Nat.reduceLeDiff, Nat.reduceAdd, Nat.reduceSub, Nat.reduceMul, Int.reduceBEq, Int.reduceBNe, Int.reduceLT, Int.reduceLE, Int.reduceEq, reduceIte, reduceCtorEq, da, int, boolA, RetP_go, resT, resC, resN, retV1, retV2, retV3, retV0, frzFZ, takeM, Option.some.injEq, k1, h]
  | true =>
    cases e1 : (key.length : Int) == 0 with
    | true =>
      have e2 : (key.length = 0) = True := eq_true (by simpa using e1)
      simp only [↓vp, vq0, vq1, vq2, vq3, vr0, vr1, vr2, vr3, vr4, vr5, vr6, vr7, vr8, vr9, vr10, vr11, vr12, vr13, vr14, vr15, vr16, vr17, vr18, vr19, vr20, vr21, vr22, vr23, vr24, vr25, vr26, vr27, vr28, vr29, vr30, vr31, vr32, vr33, vr34, opS, fpS, okP, pack, nAl, allocA, shId, leaves, fillA, fillR, splice, Nat.reduceLT, Nat.reduceEqDiff, Nat.reduceLeDiff, Nat.reduceAdd, Nat.reduceSub, Nat.reduceMul, Int.reduceBEq, Int.reduceBNe, Int.reduceLT, Int.reduceLE, Int.reduceEq, reduceIte, reduceCtorEq, da, int, boolA, RetP_go, resT, resC, resN, retV1, retV2, retV3, retV0, frzFZ, takeM, Option.some.injEq, k1, h, e1, e2, true_or]
      try rfl
    | false =>
      have e2 : (key.length = 0) = False := by simpa using e1
      by_cases e3 : mxk g < key.length
      · simp only [↓vp, vq0, vq1, vq2, vq3, vr0, vr1, vr2, vr3, vr4, vr5, vr6, vr7, vr8, vr9, vr10, vr11, vr12, vr13, vr14, vr15, vr16, vr17, vr18, vr19, vr20, vr21, vr22, vr23, vr24, vr25, vr26, vr27, vr28, vr29, vr30, vr31, vr32, vr33, vr34, opS, fpS, okP, pack, nAl, allocA, shId, leaves, fillA, fillR, splice, Nat.reduceLT, Nat.reduceEqDiff, Nat.reduceLeDiff, Nat.reduceAdd, Nat.reduceSub, Nat.reduceMul, Int.reduceBEq, Int.reduceBNe, Int.reduceLT, Int.reduceLE, Int.reduceEq, reduceIte, reduceCtorEq, da, int, boolA, RetP_go, resT, resC, resN, retV1, retV2, retV3, retV0, frzFZ, takeM, Option.some.injEq, k1, k2, h, e1, e2, e3, gt_iff_lt, or_true]
        try rfl
      · by_cases e4 : mxv g < value.length
        · simp only [↓vp, vq0, vq1, vq2, vq3, vr0, vr1, vr2, vr3, vr4, vr5, vr6, vr7, vr8, vr9, vr10, vr11, vr12, vr13, vr14, vr15, vr16, vr17, vr18, vr19, vr20, vr21, vr22, vr23, vr24, vr25, vr26, vr27, vr28, vr29, vr30, vr31, vr32, vr33, vr34, opS, fpS, okP, pack, nAl, allocA, shId, leaves, fillA, fillR, splice, Nat.reduceLT, Nat.reduceEqDiff, Nat.reduceLeDiff, Nat.reduceAdd, Nat.reduceSub, Nat.reduceMul, Int.reduceBEq, Int.reduceBNe, Int.reduceLT, Int.reduceLE, Int.reduceEq, reduceIte, reduceCtorEq, da, int, boolA, RetP_go, resT, resC, resN, retV1, retV2, retV3, retV0, frzFZ, takeM, Option.some.injEq, k1, k2, k3, h, e1, e2, e3, e4, gt_iff_lt, or_false, false_or]
          try rfl
        · simp only [↓vp, vq0, vq1, vq2, vq3, vr0, vr1, vr2, vr3, vr4, vr5, vr6, vr7, vr8, vr9, vr10, vr11, vr12, vr13, vr14, vr15, vr16, vr17, vr18, vr19, vr20, vr21, vr22, vr23, vr24, vr25, vr26, vr27, vr28, vr29, vr30, vr31, vr32, vr33, vr34, opS, fpS, okP, pack, nAl, allocA, shId, leaves, fillA, fillR, splice, Nat.reduceLT, Nat.reduceEqDiff, Nat.reduceLeDiff, Nat.reduceAdd, Nat.reduceSub, Nat.reduceMul, Int.reduceBEq, Int.reduceBNe, Int.reduceLT, Int.reduceLE, Int.reduceEq, reduceIte, reduceCtorEq, da, int, boolA, RetP_go, resT, resC, resN, retV1, retV2, retV3, retV0, frzFZ, takeM, Option.some.injEq, k1, k2, k3, h, e1, e2, e3, e4, gt_iff_lt, or_false, false_or]
          try rfl
end Go.VI

set_option linter.unusedVariables false
set_option linter.unusedSimpArgs false
set_option maxRecDepth 100000
namespace Go.VI
attribute [local congr] AW_congr OW_congr DW_congr NW_congr VW_congr GW_congr PW_congr KW_congr ite_congr' GV_congr CV_congr
def rightP (g : Int) (x : ItemM) : Bool := if whyM g x.key x.value != 0 || decide (mxv g < longM x) then false else if x.ref == 0 then x.size == 0 else decide (2 ≤ x.ref) && decide (x.ref < 16384) && decide (32 < x.size) && ((x.value.length : Int) == 0)
theorem s172 (g : Int) (x : ItemM) (H : Heap) : callL ft (.fn (.func 172) [] []) [int g, .agg (itemC x)] H = some (boolA (rightP g x), H) := by
  refine call_p (as' := [int g, .agg (itemC x)]) rfl rfl (by simp) ?_
  unfold c172 r172 rightP
  have k1 := fun g K L Q => KW_of (K := Q) (s184 g x.key x.value (hx K L))
  have k2 := fun K L Q => @k185 x K L Q
  have k3 := fun g K L Q => @k186 g K L Q
  simp only [int, itemC] at k1 k2 k3
  cases e1 : whyM g x.key x.value != 0 with
  | true => simp only [↓vp, vq0, vq1, vq2, vq3, vr0, vr1, vr2, vr3, vr4, vr5, vr6, vr7, vr8, vr9, vr10, vr11, vr12, vr13, vr14, vr15, vr16, vr17, vr18, vr19, vr20, vr21, vr22, vr23, vr24, vr25, vr26, vr27, vr28, vr29, vr30, vr31, vr32, vr33, vr34, opS, fpS, okP, pack, nAl, allocA, shId, leaves, fillA, fillR, splice, Nat.reduceLT, Nat.reduceEqDiff, Nat.reduceLeDiff, Nat.reduceAdd, Nat.reduceSub, Nat.reduceMul, Int.reduceBEq, Int.reduceBNe, Int.reduceLT, Int.reduceLE, Int.reduceEq, reduceIte, reduceCtorEq, da, int, boolA, RetP_go, resT, resC, resN, retV1, retV2, retV3, retV0, frzFZ, takeM, Option.some.injEq, itemC, k1, e1, Bool.true_or]
  | false =>
    by_cases e2 : mxv g < longM x
    · simp only [↓vp, vq0, vq1, vq2, vq3, vr0, vr1, vr2, vr3, vr4, vr5, vr6, vr7, vr8, vr9, vr10, vr11, vr12, vr13, vr14, vr15, vr16, vr17, vr18, vr19, vr20, vr21, vr22, vr23, vr24, vr25, vr26, vr27, vr28, vr29, vr30, vr31, vr32, vr33, vr34, opS, fpS, okP, pack, nAl, allocA, shId, leaves, fillA, fillR, splice, Nat.reduceLT, Nat.reduceEqDiff, Nat.reduceLeDiff, Nat.reduceAdd, Nat.reduceSub, Nat.reduceMul, Int.reduceBEq, Int.reduceBNe, Int.reduceLT, Int.reduceLE, Int.reduceEq, reduceIte, reduceCtorEq, da, int, boolA, RetP_go, resT, resC, resN, retV1, retV2, retV3, retV0, frzFZ, takeM, Option.some.injEq, itemC, k1, k2, k3, e1, e2, gt_iff_lt, decide_true, Bool.or_true]
    · cases e3 : x.ref == 0 with
      | true => simp only [↓vp, vq0, vq1, vq2, vq3, vr0, vr1, vr2, vr3, vr4, vr5, vr6, vr7, vr8, vr9, vr10, vr11, vr12, vr13, vr14, vr15, vr16, vr17, vr18, vr19, vr20, vr21, vr22, vr23, vr24, vr25, vr26, vr27, vr28, vr29, vr30, vr31, vr32, vr33, vr34, opS, fpS, okP, pack, nAl, allocA, shId, leaves, fillA, fillR, splice, Nat.reduceLT, Nat.reduceEqDiff, Nat.reduceLeDiff, Nat.reduceAdd, Nat.reduceSub, Nat.reduceMul, Int.reduceBEq, Int.reduceBNe, Int.reduceLT, Int.reduceLE, Int.reduceEq, reduceIte, reduceCtorEq, da, int, boolA, RetP_go, resT, resC, resN, retV1, retV2, retV3, retV0, frzFZ, takeM, Option.some.injEq, itemC, k1, k2, k3, e1, e2, e3, gt_iff_lt, decide_false, Bool.or_false]
      | false =>
        by_cases e4 : 2 ≤ x.ref
        · by_cases e5 : x.ref < 16384
          · by_cases e6 : 32 < x.size
            · simp only [↓vp, vq0, vq1, vq2, vq3, vr0, vr1, vr2, vr3, vr4, vr5, vr6, vr7, vr8, vr9, vr10, vr11, vr12, vr13, vr14, vr15, vr16, vr17, vr18, vr19, vr20, vr21, vr22, vr23, vr24, vr25, vr26, vr27, vr28, vr29, vr30, vr31, vr32, vr33, vr34, opS, fpS, okP, pack, nAl, allocA, shId, leaves, fillA, fillR, splice, Nat.reduceLT, Nat.reduceEqDiff, Nat.reduceLeDiff, Nat.reduceAdd, Nat.reduceSub, Nat.reduceMul, Int.reduceBEq, Int.reduceBNe, Int.reduceLT, Int.reduceLE, Int.reduceEq, reduceIte, reduceCtorEq, da, int, boolA, RetP_go, resT, resC, resN, retV1, retV2, retV3, retV0, frzFZ, takeM, Option.some.injEq, itemC, k1, k2, k3, e1, e2, e3, e4, e5, e6, gt_iff_lt, ge_iff_le, decide_true, decide_false, Bool.or_false, Bool.true_and]
            · simp only [↓vp, vq0, vq1, vq2, vq3, vr0, vr1, vr2, vr3, vr4, vr5, vr6, vr7, vr8, vr9, vr10, vr11, vr12, vr13, vr14, vr15, vr16, vr17, vr18, vr19, vr20, vr21, vr22, vr23, vr24, vr25, vr26, vr27, vr28, vr29, vr30, vr31, vr32, vr33, vr34, opS, fpS, okP, pack, nAl, allocA, shId, leaves, fillA, fillR, splice, Nat.reduceLT, Nat.reduceEqDiff, Nat.reduceLeDiff, Nat.reduceAdd, Nat.reduceSub, Nat.reduceMul, Int.reduceBEq, Int.reduceBNe, Int.reduceLT, Int.reduceLE, Int.reduceEq, reduceIte, reduceCtorEq, da, int, boolA, RetP_go, resT, resC, resN, retV1, retV2, retV3, retV0, frzFZ, takeM, Option.some.injEq, itemC, k1, k2, k3, e1, e2, e3, e4, e5, e6, gt_iff_lt, ge_iff_le, decide_true, decide_false, Bool.or_false, Bool.true_and, Bool.false_and]
          · simp only [↓vp, vq0, vq1, vq2, vq3, vr0, vr1, vr2, vr3, vr4, vr5, vr6, vr7, vr8, vr9, vr10, vr11, vr12, vr13, vr14, vr15, vr16, vr17, vr18, vr19, vr20, vr21, vr22, vr23, vr24, vr25, vr26, vr27, vr28, vr29, vr30, vr31, vr32, vr33, vr34, opS, fpS, okP, pack, nAl, allocA, shId, leaves, fillA, fillR, splice, Nat.reduceLT, Nat.reduceEqDiff, Nat.reduceLeDiff, Nat.reduceAdd, Nat.reduceSub, Nat.reduceMul, Int.reduceBEq, Int.reduceBNe, Int.reduceLT, Int.reduceLE, Int.reduceEq, reduceIte, reduceCtorEq, da, int, boolA, RetP_go, resT, resC, resN, retV1, retV2, retV3, retV0, frzFZ, takeM, Option.some.injEq, itemC, k1, k2, k3, e1, e2, e3, e4, e5, gt_iff_lt, ge_iff_le, decide_true, decide_false, Bool.or_false, Bool.true_and, Bool.false_and]
        · simp only [↓vp, vq0, vq1, vq2, vq3, vr0, vr1, vr2, vr3, vr4, vr5, vr6, vr7, vr8, vr9, vr10, vr11, vr12, vr13, vr14, vr15, vr16, vr17, vr18, vr19, vr20, vr21, vr22, vr23, vr24, vr25, vr26, vr27, vr28, vr29, vr30, vr31, vr32, vr33, vr34, opS, fpS, okP, pack, nAl, allocA, shId, leaves, fillA, fillR, splice, Nat.reduceLT, Nat.reduceEqDiff, Nat.reduceLeDiff, Nat.reduceAdd, Nat.reduceSub, Nat.reduceMul, Int.reduceBEq, Int.reduceBNe, Int.reduceLT, Int.reduceLE, Int.reduceEq, reduceIte, reduceCtorEq, da, int, boolA, RetP_go, resT, resC, resN, retV1, retV2, retV3, retV0, frzFZ, takeM, Option.some.injEq, itemC, k1, k2, k3, e1, e2, e3, e4, gt_iff_lt, ge_iff_le, decide_true, decide_false, Bool.or_false, Bool.false_and]
theorem k172 {g : Int} {x : ItemM} {K : Heap} {L : List Blk} {Q : AV → Heap → Prop} : KW ft (.fn (.func 172) [] []) [int g, .agg (itemC x)] (hx K L) Q ↔ Q (boolA (rightP g x)) (hx K L) := KW_of (s172 g x _)
def rightD (g : Int) (x : ItemM) : Bool := gen g && decide (1 ≤ x.key.length) && decide ((x.key.length : Int) ≤ mxk g) && (if x.ref == 0 then x.size == 0 && decide ((x.value.length : Int) ≤ mxv g) else decide (1 < x.ref) && decide (x.ref < 16384) && ((x.value.length : Int) == 0) && decide (32 < x.size) && decide (x.size ≤ mxv g))
theorem s30 (g : Int) (x : ItemM) (H : Heap) : callL ft (.fn (.func 30) [] []) [int g, .agg (itemC x)] H = some (boolA (rightD g x), H) := by
  refine call_p (as' := [int g, .agg (itemC x)]) rfl rfl (by simp) ?_
  unfold c30 r30 rightD
  have k1 := fun g K L Q => @k99 g K L Q
  have k3 := fun g K L Q => @k100 g K L Q
  have p1 : pureV ft (.fn (.func 99) [] []) [.sc (.int .i64 g)] = some (false, []) := rfl
  have p3 : pureV ft (.fn (.func 100) [] []) [.sc (.int .i64 g)] = some (false, []) := rfl
  simp only [int] at k1 k3
  by_cases g1 : g < 1
  · have h := (gen_iff g).1 (.inl g1)
    simp only [↓vp, vq0, vq1, vq2, vq3, vr0, vr1, vr2, vr3, vr4, vr5, vr6, vr7, vr8, vr9, vr10, vr11, vr12, vr13, vr14, vr15, vr16, vr17, vr18, vr19, vr20, vr21, vr22, vr23, vr24, vr25, vr26, vr27, vr28, vr29, vr30, vr31, vr32, vr33, vr34, opS, fpS, okP, pack, nAl, allocA, shId, leaves, fillA, fillR, splice, Nat.reduceLT, Nat.reduceEqDiff, Nat.reduceLeDiff, Nat.reduceAdd, Nat.reduceSub, Nat.reduceMul, Int.reduceBEq, Int.reduceBNe, Int.reduceLT, Int.reduceLE, Int.reduceEq, reduceIte, reduceCtorEq, da, int, boolA, RetP_go, resT, resC, resN, retV1, retV2, retV3, retV0, frzFZ, takeM, Option.some.injEq, itemC, g1, h, k1, k3, p1, p3, Bool.false_and]
  by_cases g2 : g > 3
  · have h := (gen_iff g).1 (.inr g2)
    simp only [↓vp, vq0, vq1, vq2, vq3, vr0, vr1, vr2, vr3, vr4, vr5, vr6, vr7, vr8, vr9, vr10, vr11, vr12, vr13, vr14, vr15, vr16, vr17, vr18, vr19, vr20, vr21, vr22, vr23, vr24, vr25, vr26, vr27, vr28, vr29, vr30, vr31, vr32, vr33, vr34, opS, fpS, okP, pack, nAl, allocA, shId, leaves, fillA, fillR, splice, Nat.reduceLT, Nat.reduceEqDiff, Nat.reduceLeDiff, Nat.reduceAdd, Nat.reduceSub, Nat.reduceMul, Int.reduceBEq, Int.reduceBNe, Int.reduceLT, Int.reduceLE, Int.reduceEq, reduceIte, reduceCtorEq, da, int, boolA, RetP_go, resT, resC, resN, retV1, retV2, retV3, retV0, frzFZ, takeM, Option.some.injEq, itemC, g1, g2, h, k1, k3, p1, p3, Bool.false_and]
  have h : gen g = true := by
    cases e : gen g with
    | true => rfl
    | false => exact absurd ((gen_iff g).2 e) (by omega)
  have sB : ∀ l : Bytes, (match encB l with | .sl id _ _ => [id] | .ptr id _ _ => [id] | .mp id => [id] | _ => ([] : List Nat)) = [] := fun _ => rfl
  by_cases e1 : (x.key.length : Int) < 1
  · have e1' : ¬ 1 ≤ x.key.length := by omega
    simp only [↓vp, vq0, vq1, vq2, vq3, vr0, vr1, vr2, vr3, vr4, vr5, vr6, vr7, vr8, vr9, vr10, vr11, vr12, vr13, vr14, vr15, vr16, vr17, vr18, vr19, vr20, vr21, vr22, vr23, vr24, vr25, vr26, vr27, vr28, vr29, vr30, vr31, vr32, vr33, vr34, opS, fpS, okP, pack, nAl, allocA, shId, leaves, fillA, fillR, splice, Nat.reduceLT, Nat.reduceEqDiff, Nat.reduceLeDiff, Nat.reduceAdd, Nat.reduceSub, Nat.reduceMul, Int.reduceBEq, Int.reduceBNe, Int.reduceLT, Int.reduceLE, Int.reduceEq, reduceIte, reduceCtorEq, da, int, boolA, RetP_go, resT, resC, resN, retV1, retV2, retV3, retV0, frzFZ, takeM, Option.some.injEq, itemC, g1, g2, e1, e1', h, k1, k3, p1, p3, decide_false, Bool.false_and, Bool.and_false]
    try rfl
  have e1' : 1 ≤ x.key.length := by omega
  by_cases e2 : (x.key.length : Int) > mxk g
  · have e2' : ¬ (x.key.length : Int) ≤ mxk g := by omega
    simp only [↓vp, vq0, vq1, vq2, vq3, vr0, vr1, vr2, vr3, vr4, vr5, vr6, vr7, vr8, vr9, vr10, vr11, vr12, vr13, vr14, vr15, vr16, vr17, vr18, vr19, vr20, vr21, vr22, vr23, vr24, vr25, vr26, vr27, vr28, vr29, vr30, vr31, vr32, vr33, vr34, opS, fpS, okP, pack, nAl, allocA, shId, leaves, fillA, fillR, splice, Nat.reduceLT, Nat.reduceEqDiff, Nat.reduceLeDiff, Nat.reduceAdd, Nat.reduceSub, Nat.reduceMul, Int.reduceBEq, Int.reduceBNe, Int.reduceLT, Int.reduceLE, Int.reduceEq, reduceIte, reduceCtorEq, da, int, boolA, RetP_go, resT, resC, resN, retV1, retV2, retV3, retV0, frzFZ, takeM, Option.some.injEq, itemC, g1, g2, e1, e1', e2, e2', h, k1, k3, p1, p3, decide_true, decide_false, Bool.false_and, Bool.and_false]
    try rfl
  have e2' : (x.key.length : Int) ≤ mxk g := by omega
  cases e3 : x.ref == 0 with
  | true =>
    cases e4 : x.size == 0 with
    | true =>
      simp only [↓vp, vq0, vq1, vq2, vq3, vr0, vr1, vr2, vr3, vr4, vr5, vr6, vr7, vr8, vr9, vr10, vr11, vr12, vr13, vr14, vr15, vr16, vr17, vr18, vr19, vr20, vr21, vr22, vr23, vr24, vr25, vr26, vr27, vr28, vr29, vr30, vr31, vr32, vr33, vr34, opS, fpS, okP, pack, nAl, allocA, shId, leaves, fillA, fillR, splice, Nat.reduceLT, Nat.reduceEqDiff, Nat.reduceLeDiff, Nat.reduceAdd, Nat.reduceSub, Nat.reduceMul, Int.reduceBEq, Int.reduceBNe, Int.reduceLT, Int.reduceLE, Int.reduceEq, reduceIte, reduceCtorEq, da, int, boolA, RetP_go, resT, resC, resN, retV1, retV2, retV3, retV0, frzFZ, takeM, Option.some.injEq, itemC, g1, g2, e1, e1', e2, e2', e3, e4, h, k1, k3, p1, p3, decide_true, decide_false, Bool.false_and, Bool.true_and, Bool.and_false]
      try rfl
    | false =>
      simp only [↓vp, vq0, vq1, vq2, vq3, vr0, vr1, vr2, vr3, vr4, vr5, vr6, vr7, vr8, vr9, vr10, vr11, vr12, vr13, vr14, vr15, vr16, vr17, vr18, vr19, vr20, vr21, vr22, vr23, vr24, vr25, vr26, vr27, vr28, vr29, vr30, vr31, vr32, vr33, vr34, opS, fpS, okP, pack, nAl, allocA, shId, leaves, fillA, fillR, splice, Nat.reduceLT, Nat.reduceEqDiff, Nat.reduceLeDiff, Nat.reduceAdd, Nat.reduceSub, Nat.reduceMul, Int.reduceBEq, Int.reduceBNe, Int.reduceLT, Int.reduceLE, Int.reduceEq, reduceIte, reduceCtorEq, da, int, boolA, RetP_go, resT, resC, resN, retV1, retV2, retV3, retV0, frzFZ, takeM, Option.some.injEq, itemC, g1, g2, e1, e1', e2, e2', e3, e4, h, k1, k3, p1, p3, decide_true, decide_false, Bool.false_and, Bool.true_and, Bool.and_false]
      try rfl
  | false =>
    by_cases e4 : x.ref > 1
    · by_cases e5 : x.ref < 16384
      · cases e6 : (x.value.length : Int) == 0 with
        | true =>
          by_cases e7 : x.size > 32
          · simp only [↓vp, vq0, vq1, vq2, vq3, vr0, vr1, vr2, vr3, vr4, vr5, vr6, vr7, vr8, vr9, vr10, vr11, vr12, vr13, vr14, vr15, vr16, vr17, vr18, vr19, vr20, vr21, vr22, vr23, vr24, vr25, vr26, vr27, vr28, vr29, vr30, vr31, vr32, vr33, vr34, opS, fpS, okP, pack, nAl, allocA, shId, leaves, fillA, fillR, splice, Nat.reduceLT, Nat.reduceEqDiff, Nat.reduceLeDiff, Nat.reduceAdd, Nat.reduceSub, Nat.reduceMul, Int.reduceBEq, Int.reduceBNe, Int.reduceLT, Int.reduceLE, Int.reduceEq, reduceIte, reduceCtorEq, da, int, boolA, RetP_go, resT, resC, resN, retV1, retV2, retV3, retV0, frzFZ, takeM, Option.some.injEq, itemC, g1, g2, e1, e1', e2, e2', e3, e4, e5, e6, e7, gt_iff_lt.1 e4, gt_iff_lt.1 e7, h, k1, k3, p1, p3, decide_true, decide_false, Bool.false_and, Bool.true_and, Bool.and_false]
            try rfl
          · have e7' : ¬ 32 < x.size := e7
            simp only [↓vp, vq0, vq1, vq2, vq3, vr0, vr1, vr2, vr3, vr4, vr5, vr6, vr7, vr8, vr9, vr10, vr11, vr12, vr13, vr14, vr15, vr16, vr17, vr18, vr19, vr20, vr21, vr22, vr23, vr24, vr25, vr26, vr27, vr28, vr29, vr30, vr31, vr32, vr33, vr34, opS, fpS, okP, pack, nAl, allocA, shId, leaves, fillA, fillR, splice, Nat.reduceLT, Nat.reduceEqDiff, Nat.reduceLeDiff, Nat.reduceAdd, Nat.reduceSub, Nat.reduceMul, Int.reduceBEq, Int.reduceBNe, Int.reduceLT, Int.reduceLE, Int.reduceEq, reduceIte, reduceCtorEq, da, int, boolA, RetP_go, resT, resC, resN, retV1, retV2, retV3, retV0, frzFZ, takeM, Option.some.injEq, itemC, g1, g2, e1, e1', e2, e2', e3, e4, e5, e6, e7, e7', gt_iff_lt.1 e4, h, k1, k3, p1, p3, decide_true, decide_false, Bool.false_and, Bool.true_and, Bool.and_false]
            try rfl
        | false =>
          simp only [↓vp, vq0, vq1, vq2, vq3, vr0, vr1, vr2, vr3, vr4, vr5, vr6, vr7, vr8, vr9, vr10, vr11, vr12, vr13, vr14, vr15, vr16, vr17, vr18, vr19, vr20, vr21, vr22, vr23, vr24, vr25, vr26, vr27, vr28, vr29, vr30, vr31, vr32, vr33, vr34, opS, fpS, okP, pack, nAl, allocA, shId, leaves, fillA, fillR, splice, Nat.reduceLT, Nat.reduceEqDiff, Nat.reduceLeDiff, Nat.reduceAdd, Nat.reduceSub, Nat.reduceMul, Int.reduceBEq, Int.reduceBNe, Int.reduceLT, Int.reduceLE, Int.reduceEq, reduceIte, reduceCtorEq, da, int, boolA, RetP_go, resT, resC, resN, retV1, retV2, retV3, retV0, frzFZ, takeM, Option.some.injEq, itemC, g1, g2, e1, e1', e2, e2', e3, e4, e5, e6, gt_iff_lt.1 e4, h, k1, k3, p1, p3, decide_true, decide_false, Bool.false_and, Bool.true_and, Bool.and_false]
          try rfl
      · simp only [↓vp, vq0, vq1, vq2, vq3, vr0, vr1, vr2, vr3, vr4, vr5, vr6, vr7, vr8, vr9, vr10, vr11, vr12, vr13, vr14, vr15, vr16, vr17, vr18, vr19, vr20, vr21, vr22, vr23, vr24, vr25, vr26, vr27, vr28, vr29, vr30, vr31, vr32, vr33, vr34, opS, fpS, okP, pack, nAl, allocA, shId, leaves, fillA, fillR, splice, Nat.reduceLT, Nat.reduceEqDiff, Nat.reduceLeDiff, Nat.reduceAdd, Nat.reduceSub, Nat.reduceMul, Int.reduceBEq, Int.reduceBNe, Int.reduceLT, Int.reduceLE, Int.reduceEq, reduceIte, reduceCtorEq, da, int, boolA, RetP_go, resT, resC, resN, retV1, retV2, retV3, retV0, frzFZ, takeM, Option.some.injEq, itemC, g1, g2, e1, e1', e2, e2', e3, e4, e5, gt_iff_lt.1 e4, h, k1, k3, p1, p3, decide_true, decide_false, Bool.false_and, Bool.true_and, Bool.and_false]
        try rfl
    · have e4' : ¬ 1 < x.ref := e4
      simp only [↓vp, vq0, vq1, vq2, vq3, vr0, vr1, vr2, vr3, vr4, vr5, vr6, vr7, vr8, vr9, vr10, vr11, vr12, vr13, vr14, vr15, vr16, vr17, vr18, vr19, vr20, vr21, vr22, vr23, vr24, vr25, vr26, vr27, vr28, vr29, vr30, vr31, vr32, vr33, vr34, opS, fpS, okP, pack, nAl, allocA, shId, leaves, fillA, fillR, splice, Nat.reduceLT, Nat.reduceEqDiff, Nat.reduceLeDiff, Nat.reduceAdd, Nat.reduceSub, Nat.reduceMul, Int.reduceBEq, Int.reduceBNe, Int.reduceLT, Int.reduceLE, Int.reduceEq, reduceIte, reduceCtorEq, da, int, boolA, RetP_go, resT, resC, resN, retV1, retV2, retV3, retV0, frzFZ, takeM, Option.some.injEq, itemC, g1, g2, e1, e1', e2, e2', e3, e4, e4', h, k1, k3, p1, p3, decide_true, decide_false, Bool.false_and, Bool.true_and, Bool.and_false]
      try rfl
end Go.VI

set_option linter.unusedVariables false
set_option linter.unusedSimpArgs false
namespace Go.VI
theorem cmpB_refl : ∀ a : Bytes, cmpB a a = 0
  | [] => rfl
  | x :: a => by simp [cmpB, cmpB_refl a]
theorem cmpB_eq : ∀ {a b : Bytes}, cmpB a b = 0 → a = b
  | [], [], _ => rfl
  | [], _ :: _, h => by simp [cmpB] at h
  | _ :: _, [], h => by simp [cmpB] at h
  | x :: a, y :: b, h => by
    simp only [cmpB] at h
    by_cases h1 : x < y
    · simp [h1] at h
    · by_cases h2 : y < x
      · simp [h1, h2] at h
      · simp only [h1, h2, if_false] at h
        have : x = y := by omega
        rw [this, cmpB_eq h]
theorem strOf_inj : ∀ {a b : Bytes}, byteR a = true → byteR b = true → strOfNums a = strOfNums b → a = b
  | [], [], _, _, _ => rfl
  | [], _ :: _, _, _, h => by simp [strOfNums] at h
  | _ :: _, [], _, _, h => by simp [strOfNums] at h
  | x :: a, y :: b, ha, hb, h => by
    simp only [byteR, List.all_cons, Bool.and_eq_true, decide_eq_true_eq] at ha hb
    simp only [strOfNums, List.map_cons, ByteArray.mk.injEq, Array.mk.injEq, List.cons.injEq] at h
    have e1 : x = y := by
      have := congrArg UInt8.toNat h.1
      simp at this
      omega
    rw [e1, strOf_inj (a := a) (b := b) ha.2 hb.2 (by simp only [strOfNums, h.2])]
def sameB (a b : Bytes) : Bool := cmpB a b == 0
theorem sameB_iff {a b : Bytes} : sameB a b = true ↔ a = b := by
  unfold sameB
  rw [beq_iff_eq]
  exact ⟨cmpB_eq, fun h => by rw [h]; exact cmpB_refl b⟩
theorem strOf_beq {a b : Bytes} (ha : byteR a = true) (hb : byteR b = true) : ((strOfNums a).toList == (strOfNums b).toList) = sameB a b := by
  rw [Lib.strOfNums_toList, Lib.strOfNums_toList, Bool.eq_iff_iff, beq_iff_eq, sameB_iff]
  refine ⟨fun h => strOf_inj ha hb ?_, fun h => by rw [h]⟩
  unfold Lib.bytesOf at h
  simp only [strOfNums, h]
end Go.VI

set_option linter.unusedVariables false
set_option linter.unusedSimpArgs false
set_option maxRecDepth 100000
namespace Go.VI
attribute [local congr] AW_congr OW_congr DW_congr NW_congr VW_congr GW_congr PW_congr KW_congr ite_congr' GV_congr CV_congr
theorem k30 {g : Int} {x : ItemM} {K : Heap} {L : List Blk} {Q : AV → Heap → Prop} : KW ft (.fn (.func 30) [] []) [int g, .agg (itemC x)] (hx K L) Q ↔ Q (boolA (rightD g x)) (hx K L) := KW_of (s30 g x _)
theorem bytesOf_encB (H : Heap) (l : Bytes) : (rowsOf H (encB l)).bind (fun rs => (bytesOfRows rs).map fun l => (AV.sc (.string (strOfNums l)), H)) = some (.sc (.string (strOfNums l)), H) := by
  show ((bytesOfRows (l.map byteC)).map fun l => (AV.sc (.string (strOfNums l)), H)) = _
  rw [show bytesOfRows (l.map byteC) = some l from bytesOfRows_map l]
  rfl
theorem bin_eqs (t : TypeId) (a b : ByteArray) : binA .eql t (.sc (.string a)) (.sc (.string b)) = some (.sc (.bool (a.toList == b.toList))) := by
  simp [binA, binOp, Op.stringOp, pureRun, ofScalar, isSc, pure]
theorem s23 {a b : Bytes} (ha : okB a) (hb : okB b) (H : Heap) : callL ft (.fn (.func 23) [] []) [encB a, encB b] H = some (boolA (sameB a b), H) := by
  refine call_p (as' := [encB a, encB b]) rfl rfl (by simp) ?_
  unfold c23 r23
  rw [← strOf_beq ha.r hb.r]
  simp only [↓vp, vq0, vq1, vq2, vq3, vr0, vr1, vr2, vr3, vr4, vr5, vr6, vr7, vr8, vr9, vr10, vr11, vr12, vr13, vr14, vr15, vr16, vr17, vr18, vr19, vr20, vr21, vr22, vr23, vr24, vr25, vr26, vr27, vr28, vr29, vr30, vr31, vr32, vr33, vr34, opS, fpS, okP, pack, nAl, allocA, shId, leaves, fillA, fillR, splice, Nat.reduceLT, Nat.reduceEqDiff, Nat.reduceLeDiff, Nat.reduceAdd, Nat.reduceSub, Nat.reduceMul, Int.reduceBEq, Int.reduceBNe, Int.reduceLT, Int.reduceLE, Int.reduceEq, reduceIte, reduceCtorEq, da, int, boolA, RetP_go, resT, resC, resN, retV1, retV2, retV3, retV0, frzFZ, takeM, Option.some.injEq, bytesOf_encB, bin_eqs]
theorem k23 {a b : Bytes} (ha : okB a) (hb : okB b) {K : Heap} {L : List Blk} {Q : AV → Heap → Prop} : KW ft (.fn (.func 23) [] []) [encB a, encB b] (hx K L) Q ↔ Q (boolA (sameB a b)) (hx K L) := KW_of (s23 ha hb _)
theorem s97 (x y : ItemM) (hx_ : okIt x) (hy : okIt y) (H : Heap) : callL ft (.fn (.func 97) [] []) [.agg (itemC x), .agg (itemC y)] H = some (boolA (sameI x y), H) := by
  refine call_p (as' := [.agg (itemC x), .agg (itemC y)]) rfl rfl (by simp) ?_
  unfold c97 r97
  have h1 := hx_.k
  have h2 := hx_.v
  have h3 := hy.k
  have h4 := hy.v
  show AW _ _ _ _ (RetP _ (boolA (sameB x.key y.key && sameB x.value y.value && x.size == y.size && x.ref == y.ref)))
  cases e1 : sameB x.key y.key with
  | false => simp only [↓vp, vq0, vq1, vq2, vq3, vr0, vr1, vr2, vr3, vr4, vr5, vr6, vr7, vr8, vr9, vr10, vr11, vr12, vr13, vr14, vr15, vr16, vr17, vr18, vr19, vr20, vr21, vr22, vr23, vr24, vr25, vr26, vr27, vr28, vr29, vr30, vr31, vr32, vr33, vr34, opS, fpS, okP, pack, nAl, allocA, shId, leaves, fillA, fillR, splice, Nat.reduceLT, Nat.reduceEqDiff, Nat.reduceLeDiff, Nat.reduceAdd, Nat.reduceSub, Nat.reduceMul, Int.reduceBEq, Int.reduceBNe, Int.reduceLT, Int.reduceLE, Int.reduceEq, reduceIte, reduceCtorEq, da, int, boolA, RetP_go, resT, resC, resN, retV1, retV2, retV3, retV0, frzFZ, takeM, Option.some.injEq, itemC, k23, h1, h2, h3, h4, e1, Bool.false_and]
  | true =>
    cases e2 : sameB x.value y.value with
    | false => simp only [↓vp, vq0, vq1, vq2, vq3, vr0, vr1, vr2, vr3, vr4, vr5, vr6, vr7, vr8, vr9, vr10, vr11, vr12, vr13, vr14, vr15, vr16, vr17, vr18, vr19, vr20, vr21, vr22, vr23, vr24, vr25, vr26, vr27, vr28, vr29, vr30, vr31, vr32, vr33, vr34, opS, fpS, okP, pack, nAl, allocA, shId, leaves, fillA, fillR, splice, Nat.reduceLT, Nat.reduceEqDiff, Nat.reduceLeDiff, Nat.reduceAdd, Nat.reduceSub, Nat.reduceMul, Int.reduceBEq, Int.reduceBNe, Int.reduceLT, Int.reduceLE, Int.reduceEq, reduceIte, reduceCtorEq, da, int, boolA, RetP_go, resT, resC, resN, retV1, retV2, retV3, retV0, frzFZ, takeM, Option.some.injEq, itemC, k23, h1, h2, h3, h4, e1, e2, Bool.false_and, Bool.true_and]
    | true =>
      cases e3 : x.size == y.size with
      | false => simp only [↓vp, vq0, vq1, vq2, vq3, vr0, vr1, vr2, vr3, vr4, vr5, vr6, vr7, vr8, vr9, vr10, vr11, vr12, vr13, vr14, vr15, vr16, vr17, vr18, vr19, vr20, vr21, vr22, vr23, vr24, vr25, vr26, vr27, vr28, vr29, vr30, vr31, vr32, vr33, vr34, opS, fpS, okP, pack, nAl, allocA, shId, leaves, fillA, fillR, splice, Nat.reduceLT, Nat.reduceEqDiff, Nat.reduceLeDiff, Nat.reduceAdd, Nat.reduceSub, Nat.reduceMul, Int.reduceBEq, Int.reduceBNe, Int.reduceLT, Int.reduceLE, Int.reduceEq, reduceIte, reduceCtorEq, da, int, boolA, RetP_go, resT, resC, resN, retV1, retV2, retV3, retV0, frzFZ, takeM, Option.some.injEq, itemC, k23, h1, h2, h3, h4, e1, e2, e3, Bool.false_and, Bool.true_and]
      | true => simp only [↓vp, vq0, vq1, vq2, vq3, vr0, vr1, vr2, vr3, vr4, vr5, vr6, vr7, vr8, vr9, vr10, vr11, vr12, vr13, vr14, vr15, vr16, vr17, vr18, vr19, vr20, vr21, vr22, vr23, vr24, vr25, vr26, vr27, vr28, vr29, vr30, vr31, vr32, vr33, vr34, opS, fpS, okP, pack, nAl, allocA, shId, leaves, fillA, fillR, splice, Nat.reduceLT, Nat.reduceEqDiff, Nat.reduceLeDiff, Nat.reduceAdd, Nat.reduceSub, Nat.reduceMul, Int.reduceBEq, Int.reduceBNe, Int.reduceLT, Int.reduceLE, Int.reduceEq, reduceIte, reduceCtorEq, da, int, boolA, RetP_go, resT, resC, resN, retV1, retV2, retV3, retV0, frzFZ, takeM, Option.some.injEq, itemC, k23, h1, h2, h3, h4, e1, e2, e3, Bool.true_and]
theorem k97 {x y : ItemM} (hx_ : okIt x) (hy : okIt y) {K : Heap} {L : List Blk} {Q : AV → Heap → Prop} : KW ft (.fn (.func 97) [] []) [.agg (itemC x), .agg (itemC y)] (hx K L) Q ↔ Q (boolA (sameI x y)) (hx K L) := KW_of (s97 x y hx_ hy _)
theorem s95 (x y : KidM) (h1 : okB x.key) (h2 : okB y.key) (H : Heap) : callL ft (.fn (.func 95) [] []) [.agg (kidC x), .agg (kidC y)] H = some (boolA (sameB x.key y.key && x.ref == y.ref), H) := by
  refine call_p (as' := [.agg (kidC x), .agg (kidC y)]) rfl rfl (by simp) ?_
  unfold c95 r95
  cases e1 : sameB x.key y.key with
  | false => simp only [↓vp, vq0, vq1, vq2, vq3, vr0, vr1, vr2, vr3, vr4, vr5, vr6, vr7, vr8, vr9, vr10, vr11, vr12, vr13, vr14, vr15, vr16, vr17, vr18, vr19, vr20, vr21, vr22, vr23, vr24, vr25, vr26, vr27, vr28, vr29, vr30, vr31, vr32, vr33, vr34, opS, fpS, okP, pack, nAl, allocA, shId, leaves, fillA, fillR, splice, Nat.reduceLT, Nat.reduceEqDiff, Nat.reduceLeDiff, Nat.reduceAdd, Nat.reduceSub, Nat.reduceMul, Int.reduceBEq, Int.reduceBNe, Int.reduceLT, Int.reduceLE, Int.reduceEq, reduceIte, reduceCtorEq, da, int, boolA, RetP_go, resT, resC, resN, retV1, retV2, retV3, retV0, frzFZ, takeM, Option.some.injEq, kidC, k23, h1, h2, e1, Bool.false_and]
  | true => simp only [↓vp, vq0, vq1, vq2, vq3, vr0, vr1, vr2, vr3, vr4, vr5, vr6, vr7, vr8, vr9, vr10, vr11, vr12, vr13, vr14, vr15, vr16, vr17, vr18, vr19, vr20, vr21, vr22, vr23, vr24, vr25, vr26, vr27, vr28, vr29, vr30, vr31, vr32, vr33, vr34, opS, fpS, okP, pack, nAl, allocA, shId, leaves, fillA, fillR, splice, Nat.reduceLT, Nat.reduceEqDiff, Nat.reduceLeDiff, Nat.reduceAdd, Nat.reduceSub, Nat.reduceMul, Int.reduceBEq, Int.reduceBNe, Int.reduceLT, Int.reduceLE, Int.reduceEq, reduceIte, reduceCtorEq, da, int, boolA, RetP_go, resT, resC, resN, retV1, retV2, retV3, retV0, frzFZ, takeM, Option.some.injEq, kidC, k23, h1, h2, e1, Bool.true_and]
theorem k95 {x y : KidM} (h1 : okB x.key) (h2 : okB y.key) {K : Heap} {L : List Blk} {Q : AV → Heap → Prop} : KW ft (.fn (.func 95) [] []) [.agg (kidC x), .agg (kidC y)] (hx K L) Q ↔ Q (boolA (sameB x.key y.key && x.ref == y.ref)) (hx K L) := KW_of (s95 x y h1 h2 _)
end Go.VI

set_option linter.unusedVariables false
set_option linter.unusedSimpArgs false
set_option maxRecDepth 100000
namespace Go.VI
attribute [local congr] AW_congr OW_congr DW_congr NW_congr VW_congr GW_congr PW_congr KW_congr ite_congr' GV_congr CV_congr
theorem sameK_eq (x y : KidM) : (sameB x.key y.key && x.ref == y.ref) = sameK x y := Bool.and_comm _ _
theorem l96 (a b : List ItemM) (ha : okI a) (hb : okI b) (hl : a.length = b.length) {Q : AExit → Env → Heap → Prop}
   (hex : ∀ f' K', sameIs a b = true → Q (.exit 0) (mkE 32 f') (hx K' []))
   (hret : ∀ f' K', sameIs a b = false → f' 6 = boolA false → Q .ret (mkE 32 f') (hx K' [])) :
   ∀ (d i : Nat) (K : Heap) (f : Nat → AV), i + d = a.length → sameIs a b = sameIs (a.drop i) (b.drop i) → f 1 = encI b → f 2 = .fn (.func 97) [] [] → f 15 = encI a → f 16 = int a.length → f 17 = int i →
    AW ft (.loop c96L0) (mkE 32 f) (hx K []) Q := by
  intro d
  have hi := ha.n
  unfold MX at hi
  induction d with
  | zero =>
    intro i K f hd hc h1 h2 h15 h16 h17
    have g : ((i : Int) < a.length) = False := by simp; omega
    rw [AW_loop]
    unfold c96L0
    rw [List.drop_eq_nil_of_le (by omega)] at hc
    simp only [↓vp, vq0, vq1, vq2, vq3, vr0, vr1, vr2, vr3, vr4, vr5, vr6, vr7, vr8, vr9, vr10, vr11, vr12, vr13, vr14, vr15, vr16, vr17, vr18, vr19, vr20, vr21, vr22, vr23, vr24, vr25, vr26, vr27, vr28, vr29, vr30, vr31, vr32, vr33, vr34, opS, fpS, okP, pack, nAl, allocA, shId, leaves, fillA, fillR, splice, Nat.reduceLT, Nat.reduceEqDiff, Nat.reduceLeDiff, Nat.reduceAdd, Nat.reduceSub, Nat.reduceMul, Int.reduceBEq, Int.reduceBNe, Int.reduceLT, Int.reduceLE, Int.reduceEq, reduceIte, reduceCtorEq, da, int, boolA, h16, h17, g]
    exact hex _ _ (by rw [hc]; rfl)
  | succ d ih =>
    intro i K f hd hc h1 h2 h15 h16 h17
    have g : ((i : Int) < a.length) = True := by simp; omega
    have gi : i < a.length := by omega
    have gj : i < b.length := by omega
    have o1 := ha.at_ gi
    have o2 := hb.at_ gj
    rw [AW_loop]
    unfold c96L0
    rw [List.drop_eq_getElem_cons gi, List.drop_eq_getElem_cons gj, sameIs] at hc
    have w1 := wrap_succ (show i < 9223372036854775807 by omega)
    cases e1 : sameI a[i] b[i] with
    | false =>
      simp only [↓vp, vq0, vq1, vq2, vq3, vr0, vr1, vr2, vr3, vr4, vr5, vr6, vr7, vr8, vr9, vr10, vr11, vr12, vr13, vr14, vr15, vr16, vr17, vr18, vr19, vr20, vr21, vr22, vr23, vr24, vr25, vr26, vr27, vr28, vr29, vr30, vr31, vr32, vr33, vr34, opS, fpS, okP, pack, nAl, allocA, shId, leaves, fillA, fillR, splice, Nat.reduceLT, Nat.reduceEqDiff, Nat.reduceLeDiff, Nat.reduceAdd, Nat.reduceSub, Nat.reduceMul, Int.reduceBEq, Int.reduceBNe, Int.reduceLT, Int.reduceLE, Int.reduceEq, reduceIte, reduceCtorEq, da, int, boolA, h1, h2, h15, h16, h17, g, atI gi, cI gi, atI gj, cI gj, k97, o1, o2, e1]
      rw [← hx_nil (hx K _)]
      refine hret _ _ (by rw [hc, e1, Bool.false_and]) ?_
      simp only [↓vp, vq0, vq1, vq2, vq3, vr0, vr1, vr2, vr3, vr4, vr5, vr6, vr7, vr8, vr9, vr10, vr11, vr12, vr13, vr14, vr15, vr16, vr17, vr18, vr19, vr20, vr21, vr22, vr23, vr24, vr25, vr26, vr27, vr28, vr29, vr30, vr31, vr32, vr33, vr34, opS, fpS, okP, pack, nAl, allocA, shId, leaves, fillA, fillR, splice, Nat.reduceLT, Nat.reduceEqDiff, Nat.reduceLeDiff, Nat.reduceAdd, Nat.reduceSub, Nat.reduceMul, Int.reduceBEq, Int.reduceBNe, Int.reduceLT, Int.reduceLE, Int.reduceEq, reduceIte, reduceCtorEq, da, int, boolA]
    | true =>
      simp only [↓vp, vq0, vq1, vq2, vq3, vr0, vr1, vr2, vr3, vr4, vr5, vr6, vr7, vr8, vr9, vr10, vr11, vr12, vr13, vr14, vr15, vr16, vr17, vr18, vr19, vr20, vr21, vr22, vr23, vr24, vr25, vr26, vr27, vr28, vr29, vr30, vr31, vr32, vr33, vr34, opS, fpS, okP, pack, nAl, allocA, shId, leaves, fillA, fillR, splice, Nat.reduceLT, Nat.reduceEqDiff, Nat.reduceLeDiff, Nat.reduceAdd, Nat.reduceSub, Nat.reduceMul, Int.reduceBEq, Int.reduceBNe, Int.reduceLT, Int.reduceLE, Int.reduceEq, reduceIte, reduceCtorEq, da, int, boolA, h1, h2, h15, h16, h17, g, atI gi, cI gi, atI gj, cI gj, k97, o1, o2, e1, w1]
      rw [← hx_nil (hx K _)]
      refine ih (i + 1) _ _ (by omega) (by rw [hc, e1, Bool.true_and]) ?_ ?_ ?_ ?_ ?_ <;> simp only [↓vp, vq0, vq1, vq2, vq3, vr0, vr1, vr2, vr3, vr4, vr5, vr6, vr7, vr8, vr9, vr10, vr11, vr12, vr13, vr14, vr15, vr16, vr17, vr18, vr19, vr20, vr21, vr22, vr23, vr24, vr25, vr26, vr27, vr28, vr29, vr30, vr31, vr32, vr33, vr34, opS, fpS, okP, pack, nAl, allocA, shId, leaves, fillA, fillR, splice, Nat.reduceLT, Nat.reduceEqDiff, Nat.reduceLeDiff, Nat.reduceAdd, Nat.reduceSub, Nat.reduceMul, Int.reduceBEq, Int.reduceBNe, Int.reduceLT, Int.reduceLE, Int.reduceEq, reduceIte, reduceCtorEq, da, int, boolA, h1, h2, h15, h16]
theorem s96 (a b : List ItemM) (ha : okI a) (hb : okI b) (H : Heap) : callL ft (.fn (.func 96) [] []) [encI a, encI b, .fn (.func 97) [] []] H = some (boolA (a.length == b.length && sameIs a b), H) := by
  refine call_p (as' := [encI a, encI b, .fn (.func 97) [] []]) rfl rfl (by simp) ?_
  unfold c96 r96
  cases e : a.length == b.length with
  | false =>
    have e' : ((a.length : Int) != b.length) = true := by
      have : a.length ≠ b.length := by simpa using e
      simp; omega
    simp only [↓vp, vq0, vq1, vq2, vq3, vr0, vr1, vr2, vr3, vr4, vr5, vr6, vr7, vr8, vr9, vr10, vr11, vr12, vr13, vr14, vr15, vr16, vr17, vr18, vr19, vr20, vr21, vr22, vr23, vr24, vr25, vr26, vr27, vr28, vr29, vr30, vr31, vr32, vr33, vr34, opS, fpS, okP, pack, nAl, allocA, shId, leaves, fillA, fillR, splice, Nat.reduceLT, Nat.reduceEqDiff, Nat.reduceLeDiff, Nat.reduceAdd, Nat.reduceSub, Nat.reduceMul, Int.reduceBEq, Int.reduceBNe, Int.reduceLT, Int.reduceLE, Int.reduceEq, reduceIte, reduceCtorEq, da, int, boolA, RetP_go, resT, resC, resN, retV1, retV2, retV3, retV0, frzFZ, takeM, Option.some.injEq, e', Bool.false_and]
  | true =>
    have h2 : a.length = b.length := by simpa using e
    have e' : ((a.length : Int) != b.length) = false := by simp; omega
    simp only [↓vp, vq0, vq1, vq2, vq3, vr0, vr1, vr2, vr3, vr4, vr5, vr6, vr7, vr8, vr9, vr10, vr11, vr12, vr13, vr14, vr15, vr16, vr17, vr18, vr19, vr20, vr21, vr22, vr23, vr24, vr25, vr26, vr27, vr28, vr29, vr30, vr31, vr32, vr33, vr34, opS, fpS, okP, pack, nAl, allocA, shId, leaves, fillA, fillR, splice, Nat.reduceLT, Nat.reduceEqDiff, Nat.reduceLeDiff, Nat.reduceAdd, Nat.reduceSub, Nat.reduceMul, Int.reduceBEq, Int.reduceBNe, Int.reduceLT, Int.reduceLE, Int.reduceEq, reduceIte, reduceCtorEq, da, int, boolA, e']
    refine l96 a b ha hb h2 (fun f' K' hs => ?_) (fun f' K' hs h6 => ?_) a.length 0 _ _ (by omega) rfl ?_ ?_ ?_ ?_ ?_
    · unfold c96R1
      simp only [↓vp, vq0, vq1, vq2, vq3, vr0, vr1, vr2, vr3, vr4, vr5, vr6, vr7, vr8, vr9, vr10, vr11, vr12, vr13, vr14, vr15, vr16, vr17, vr18, vr19, vr20, vr21, vr22, vr23, vr24, vr25, vr26, vr27, vr28, vr29, vr30, vr31, vr32, vr33, vr34, opS, fpS, okP, pack, nAl, allocA, shId, leaves, fillA, fillR, splice, Nat.reduceLT, Nat.reduceEqDiff, Nat.reduceLeDiff, Nat.reduceAdd, Nat.reduceSub, Nat.reduceMul, Int.reduceBEq, Int.reduceBNe, Int.reduceLT, Int.reduceLE, Int.reduceEq, reduceIte, reduceCtorEq, da, int, boolA, RetP_go, resT, resC, resN, retV1, retV2, retV3, retV0, frzFZ, takeM, Option.some.injEq, hs, Bool.true_and]
    · simp only [↓vp, vq0, vq1, vq2, vq3, vr0, vr1, vr2, vr3, vr4, vr5, vr6, vr7, vr8, vr9, vr10, vr11, vr12, vr13, vr14, vr15, vr16, vr17, vr18, vr19, vr20, vr21, vr22, vr23, vr24, vr25, vr26, vr27, vr28, vr29, vr30, vr31, vr32, vr33, vr34, opS, fpS, okP, pack, nAl, allocA, shId, leaves, fillA, fillR, splice, Nat.reduceLT, Nat.reduceEqDiff, Nat.reduceLeDiff, Nat.reduceAdd, Nat.reduceSub, Nat.reduceMul, Int.reduceBEq, Int.reduceBNe, Int.reduceLT, Int.reduceLE, Int.reduceEq, reduceIte, reduceCtorEq, da, int, boolA, RetP_go, resT, resC, resN, retV1, retV2, retV3, retV0, frzFZ, takeM, Option.some.injEq, hs, h6, Bool.and_false]
    all_goals first | rfl | (simp only [↓vp, vq0, vq1, vq2, vq3, vr0, vr1, vr2, vr3, vr4, vr5, vr6, vr7, vr8, vr9, vr10, vr11, vr12, vr13, vr14, vr15, vr16, vr17, vr18, vr19, vr20, vr21, vr22, vr23, vr24, vr25, vr26, vr27, vr28, vr29, vr30, vr31, vr32, vr33, vr34, opS, fpS, okP, pack, nAl, allocA, shId, leaves, fillA, fillR, splice, Nat.reduceLT, Nat.reduceEqDiff, Nat.reduceLeDiff, Nat.reduceAdd, Nat.reduceSub, Nat.reduceMul, Int.reduceBEq, Int.reduceBNe, Int.reduceLT, Int.reduceLE, Int.reduceEq, reduceIte, reduceCtorEq, da, int, boolA]; done)
theorem k96 {a b : List ItemM} (ha : okI a) (hb : okI b) {K : Heap} {L : List Blk} {Q : AV → Heap → Prop} : KW ft (.fn (.func 96) [] []) [encI a, encI b, .fn (.func 97) [] []] (hx K L) Q ↔ Q (boolA (a.length == b.length && sameIs a b)) (hx K L) := KW_of (s96 a b ha hb _)
theorem l98 (a b : List KidM) (ha : okK a) (hb : okK b) (hl : a.length = b.length) {Q : AExit → Env → Heap → Prop}
   (hex : ∀ f' K', sameKs a b = true → Q (.exit 0) (mkE 32 f') (hx K' []))
   (hret : ∀ f' K', sameKs a b = false → f' 6 = boolA false → Q .ret (mkE 32 f') (hx K' [])) :
   ∀ (d i : Nat) (K : Heap) (f : Nat → AV), i + d = a.length → sameKs a b = sameKs (a.drop i) (b.drop i) → f 1 = encK b → f 2 = .fn (.func 95) [] [] → f 15 = encK a → f 16 = int a.length → f 17 = int i →
    AW ft (.loop c98L0) (mkE 32 f) (hx K []) Q := by
  intro d
  have hi := ha.n
  unfold MX at hi
  induction d with
  | zero =>
    intro i K f hd hc h1 h2 h15 h16 h17
    have g : ((i : Int) < a.length) = False := by simp; omega
    rw [AW_loop]
    unfold c98L0
    rw [List.drop_eq_nil_of_le (by omega)] at hc
    simp only [↓vp, vq0, vq1, vq2, vq3, vr0, vr1, vr2, vr3, vr4, vr5, vr6, vr7, vr8, vr9, vr10, vr11, vr12, vr13, vr14, vr15, vr16, vr17, vr18, vr19, vr20, vr21, vr22, vr23, vr24, vr25, vr26, vr27, vr28, vr29, vr30, vr31, vr32, vr33, vr34, opS, fpS, okP, pack, nAl, allocA, shId, leaves, fillA, fillR, splice, Nat.reduceLT, Nat.reduceEqDiff, Nat.reduceLeDiff, Nat.reduceAdd, Nat.reduceSub, Nat.reduceMul, Int.reduceBEq, Int.reduceBNe, Int.reduceLT, Int.reduceLE, Int.reduceEq, reduceIte, reduceCtorEq, da, int, boolA, h16, h17, g]
    exact hex _ _ (by rw [hc]; rfl)
  | succ d ih =>
    intro i K f hd hc h1 h2 h15 h16 h17
    have g : ((i : Int) < a.length) = True := by simp; omega
    have gi : i < a.length := by omega
    have gj : i < b.length := by omega
    have o1 := ha.at_ gi
    have o2 := hb.at_ gj
    rw [AW_loop]
    unfold c98L0
    rw [List.drop_eq_getElem_cons gi, List.drop_eq_getElem_cons gj, sameKs] at hc
    have w1 := wrap_succ (show i < 9223372036854775807 by omega)
    cases e1 : sameK a[i] b[i] with
    | false =>
      simp only [↓vp, vq0, vq1, vq2, vq3, vr0, vr1, vr2, vr3, vr4, vr5, vr6, vr7, vr8, vr9, vr10, vr11, vr12, vr13, vr14, vr15, vr16, vr17, vr18, vr19, vr20, vr21, vr22, vr23, vr24, vr25, vr26, vr27, vr28, vr29, vr30, vr31, vr32, vr33, vr34, opS, fpS, okP, pack, nAl, allocA, shId, leaves, fillA, fillR, splice, Nat.reduceLT, Nat.reduceEqDiff, Nat.reduceLeDiff, Nat.reduceAdd, Nat.reduceSub, Nat.reduceMul, Int.reduceBEq, Int.reduceBNe, Int.reduceLT, Int.reduceLE, Int.reduceEq, reduceIte, reduceCtorEq, da, int, boolA, h1, h2, h15, h16, h17, g, atK gi, cK gi, atK gj, cK gj, k95, o1, o2, sameK_eq, e1]
      rw [← hx_nil (hx K _)]
      refine hret _ _ (by rw [hc, e1, Bool.false_and]) ?_
      simp only [↓vp, vq0, vq1, vq2, vq3, vr0, vr1, vr2, vr3, vr4, vr5, vr6, vr7, vr8, vr9, vr10, vr11, vr12, vr13, vr14, vr15, vr16, vr17, vr18, vr19, vr20, vr21, vr22, vr23, vr24, vr25, vr26, vr27, vr28, vr29, vr30, vr31, vr32, vr33, vr34, opS, fpS, okP, pack, nAl, allocA, shId, leaves, fillA, fillR, splice, Nat.reduceLT, Nat.reduceEqDiff, Nat.reduceLeDiff, Nat.reduceAdd, Nat.reduceSub, Nat.reduceMul, Int.reduceBEq, Int.reduceBNe, Int.reduceLT, Int.reduceLE, Int.reduceEq, reduceIte, reduceCtorEq, da, int, boolA]
    | true =>
      simp only [↓vp, vq0, vq1, vq2, vq3, vr0, vr1, vr2, vr3, vr4, vr5, vr6, vr7, vr8, vr9, vr10, vr11, vr12, vr13, vr14, vr15, vr16, vr17, vr18, vr19, vr20, vr21, vr22, vr23, vr24, vr25, vr26, vr27, vr28, vr29, vr30, vr31, vr32, vr33, vr34, opS, fpS, okP, pack, nAl, allocA, shId, leaves, fillA, fillR, splice, Nat.reduceLT, Nat.reduceEqDiff, Nat.reduceLeDiff, Nat.reduceAdd, Nat.reduceSub, Nat.reduceMul, Int.reduceBEq, Int.reduceBNe, Int.reduceLT, Int.reduceLE, Int.reduceEq, reduceIte, reduceCtorEq, da, int, boolA, h1, h2, h15, h16, h17, g, atK gi, cK gi, atK gj, cK gj, k95, o1, o2, sameK_eq, e1, w1]
      rw [← hx_nil (hx K _)]
      refine ih (i + 1) _ _ (by omega) (by rw [hc, e1, Bool.true_and]) ?_ ?_ ?_ ?_ ?_ <;> simp only [↓vp, vq0, vq1, vq2, vq3, vr0, vr1, vr2, vr3, vr4, vr5, vr6, vr7, vr8, vr9, vr10, vr11, vr12, vr13, vr14, vr15, vr16, vr17, vr18, vr19, vr20, vr21, vr22, vr23, vr24, vr25, vr26, vr27, vr28, vr29, vr30, vr31, vr32, vr33, vr34, opS, fpS, okP, pack, nAl, allocA, shId, leaves, fillA, fillR, splice, Nat.reduceLT, Nat.reduceEqDiff, Nat.reduceLeDiff, Nat.reduceAdd, Nat.reduceSub, Nat.reduceMul, Int.reduceBEq, Int.reduceBNe, Int.reduceLT, Int.reduceLE, Int.reduceEq, reduceIte, reduceCtorEq, da, int, boolA, h1, h2, h15, h16]
theorem s98 (a b : List KidM) (ha : okK a) (hb : okK b) (H : Heap) : callL ft (.fn (.func 98) [] []) [encK a, encK b, .fn (.func 95) [] []] H = some (boolA (a.length == b.length && sameKs a b), H) := by
  refine call_p (as' := [encK a, encK b, .fn (.func 95) [] []]) rfl rfl (by simp) ?_
  unfold c98 r98
  cases e : a.length == b.length with
  | false =>
    have e' : ((a.length : Int) != b.length) = true := by
      have : a.length ≠ b.length := by simpa using e
      simp; omega
    simp only [↓vp, vq0, vq1, vq2, vq3, vr0, vr1, vr2, vr3, vr4, vr5, vr6, vr7, vr8, vr9, vr10, vr11, vr12, vr13, vr14, vr15, vr16, vr17, vr18, vr19, vr20, vr21, vr22, vr23, vr24, vr25, vr26, vr27, vr28, vr29, vr30, vr31, vr32, vr33, vr34, opS, fpS, okP, pack, nAl, allocA, shId, leaves, fillA, fillR, splice, Nat.reduceLT, Nat.reduceEqDiff, Nat.reduceLeDiff, Nat.reduceAdd, Nat.reduceSub, Nat.reduceMul, Int.reduceBEq, Int.reduceBNe, Int.reduceLT, Int.reduceLE, Int.reduceEq, reduceIte, reduceCtorEq, da, int, boolA, RetP_go, resT, resC, resN, retV1, retV2, retV3, retV0, frzFZ, takeM, Option.some.injEq, e', Bool.false_and]
  | true =>
    have h2 : a.length = b.length := by simpa using e
    have e' : ((a.length : Int) != b.length) = false := by simp; omega
    simp only [↓vp, vq0, vq1, vq2, vq3, vr0, vr1, vr2, vr3, vr4, vr5, vr6, vr7, vr8, vr9, vr10, vr11, vr12, vr13, vr14, vr15, vr16, vr17, vr18, vr19, vr20, vr21, vr22, vr23, vr24, vr25, vr26, vr27, vr28, vr29, vr30, vr31, vr32, vr33, vr34, opS, fpS, okP, pack, nAl, allocA, shId, leaves, fillA, fillR, splice, Nat.reduceLT, Nat.reduceEqDiff, Nat.reduceLeDiff, Nat.reduceAdd, Nat.reduceSub, Nat.reduceMul, Int.reduceBEq, Int.reduceBNe, Int.reduceLT, Int.reduceLE, Int.reduceEq, reduceIte, reduceCtorEq, da, int, boolA, e']
    refine l98 a b ha hb h2 (fun f' K' hs => ?_) (fun f' K' hs h6 => ?_) a.length 0 _ _ (by omega) rfl ?_ ?_ ?_ ?_ ?_
    · unfold c98R1
      simp only [↓vp, vq0, vq1, vq2, vq3, vr0, vr1, vr2, vr3, vr4, vr5, vr6, vr7, vr8, vr9, vr10, vr11, vr12, vr13, vr14, vr15, vr16, vr17, vr18, vr19, vr20, vr21, vr22, vr23, vr24, vr25, vr26, vr27, vr28, vr29, vr30, vr31, vr32, vr33, vr34, opS, fpS, okP, pack, nAl, allocA, shId, leaves, fillA, fillR, splice, Nat.reduceLT, Nat.reduceEqDiff, Nat.reduceLeDiff, Nat.reduceAdd, Nat.reduceSub, Nat.reduceMul, Int.reduceBEq, Int.reduceBNe, Int.reduceLT, Int.reduceLE, Int.reduceEq, reduceIte, reduceCtorEq, da, int, boolA, RetP_go, resT, resC, resN, retV1, retV2, retV3, retV0, frzFZ, takeM, Option.some.injEq, hs, Bool.true_and]
    · simp only [↓vp, vq0, vq1, vq2, vq3, vr0, vr1, vr2, vr3, vr4, vr5, vr6, vr7, vr8, vr9, vr10, vr11, vr12, vr13, vr14, vr15, vr16, vr17, vr18, vr19, vr20, vr21, vr22, vr23, vr24, vr25, vr26, vr27, vr28, vr29, vr30, vr31, vr32, vr33, vr34, opS, fpS, okP, pack, nAl, allocA, shId, leaves, fillA, fillR, splice, Nat.reduceLT, Nat.reduceEqDiff, Nat.reduceLeDiff, Nat.reduceAdd, Nat.reduceSub, Nat.reduceMul, Int.reduceBEq, Int.reduceBNe, Int.reduceLT, Int.reduceLE, Int.reduceEq, reduceIte, reduceCtorEq, da, int, boolA, RetP_go, resT, resC, resN, retV1, retV2, retV3, retV0, frzFZ, takeM, Option.some.injEq, hs, h6, Bool.and_false]
    all_goals first | rfl | (simp only [↓vp, vq0, vq1, vq2, vq3, vr0, vr1, vr2, vr3, vr4, vr5, vr6, vr7, vr8, vr9, vr10, vr11, vr12, vr13, vr14, vr15, vr16, vr17, vr18, vr19, vr20, vr21, vr22, vr23, vr24, vr25, vr26, vr27, vr28, vr29, vr30, vr31, vr32, vr33, vr34, opS, fpS, okP, pack, nAl, allocA, shId, leaves, fillA, fillR, splice, Nat.reduceLT, Nat.reduceEqDiff, Nat.reduceLeDiff, Nat.reduceAdd, Nat.reduceSub, Nat.reduceMul, Int.reduceBEq, Int.reduceBNe, Int.reduceLT, Int.reduceLE, Int.reduceEq, reduceIte, reduceCtorEq, da, int, boolA]; done)
theorem k98 {a b : List KidM} (ha : okK a) (hb : okK b) {K : Heap} {L : List Blk} {Q : AV → Heap → Prop} : KW ft (.fn (.func 98) [] []) [encK a, encK b, .fn (.func 95) [] []] (hx K L) Q ↔ Q (boolA (a.length == b.length && sameKs a b)) (hx K L) := KW_of (s98 a b ha hb _)
theorem s28 (a b : NodeM) (ha : okN a) (hb : okN b) (H : Heap) : callL ft (.fn (.func 28) [] []) [.agg (nodeC a), .agg (nodeC b)] H = some (boolA (sameN a b), H) := by
  refine call_p (as' := [.agg (nodeC a), .agg (nodeC b)]) rfl rfl (by simp) ?_
  unfold c28 r28
  have h1 := ha.i
  have h2 := ha.k
  have h3 := hb.i
  have h4 := hb.k
  have e : sameN a b = (a.leaf == b.leaf && (a.items.length == b.items.length && sameIs a.items b.items) && (a.kids.length == b.kids.length && sameKs a.kids b.kids)) := by
    unfold sameN
    cases a.leaf == b.leaf <;> cases a.items.length == b.items.length <;> cases sameIs a.items b.items <;> cases a.kids.length == b.kids.length <;> cases sameKs a.kids b.kids <;> rfl
  rw [e]
  cases e1 : a.leaf == b.leaf with
  | false => simp only [↓vp, vq0, vq1, vq2, vq3, vr0, vr1, vr2, vr3, vr4, vr5, vr6, vr7, vr8, vr9, vr10, vr11, vr12, vr13, vr14, vr15, vr16, vr17, vr18, vr19, vr20, vr21, vr22, vr23, vr24, vr25, vr26, vr27, vr28, vr29, vr30, vr31, vr32, vr33, vr34, opS, fpS, okP, pack, nAl, allocA, shId, leaves, fillA, fillR, splice, Nat.reduceLT, Nat.reduceEqDiff, Nat.reduceLeDiff, Nat.reduceAdd, Nat.reduceSub, Nat.reduceMul, Int.reduceBEq, Int.reduceBNe, Int.reduceLT, Int.reduceLE, Int.reduceEq, reduceIte, reduceCtorEq, da, int, boolA, RetP_go, resT, resC, resN, retV1, retV2, retV3, retV0, frzFZ, takeM, Option.some.injEq, nodeC, e1, Bool.false_and]
  | true =>
    cases e2 : a.items.length == b.items.length && sameIs a.items b.items with
    | false => simp only [↓vp, vq0, vq1, vq2, vq3, vr0, vr1, vr2, vr3, vr4, vr5, vr6, vr7, vr8, vr9, vr10, vr11, vr12, vr13, vr14, vr15, vr16, vr17, vr18, vr19, vr20, vr21, vr22, vr23, vr24, vr25, vr26, vr27, vr28, vr29, vr30, vr31, vr32, vr33, vr34, opS, fpS, okP, pack, nAl, allocA, shId, leaves, fillA, fillR, splice, Nat.reduceLT, Nat.reduceEqDiff, Nat.reduceLeDiff, Nat.reduceAdd, Nat.reduceSub, Nat.reduceMul, Int.reduceBEq, Int.reduceBNe, Int.reduceLT, Int.reduceLE, Int.reduceEq, reduceIte, reduceCtorEq, da, int, boolA, RetP_go, resT, resC, resN, retV1, retV2, retV3, retV0, frzFZ, takeM, Option.some.injEq, nodeC, e1, e2, k96, k98, h1, h2, h3, h4, Bool.false_and, Bool.true_and]
    | true => simp only [↓vp, vq0, vq1, vq2, vq3, vr0, vr1, vr2, vr3, vr4, vr5, vr6, vr7, vr8, vr9, vr10, vr11, vr12, vr13, vr14, vr15, vr16, vr17, vr18, vr19, vr20, vr21, vr22, vr23, vr24, vr25, vr26, vr27, vr28, vr29, vr30, vr31, vr32, vr33, vr34, opS, fpS, okP, pack, nAl, allocA, shId, leaves, fillA, fillR, splice, Nat.reduceLT, Nat.reduceEqDiff, Nat.reduceLeDiff, Nat.reduceAdd, Nat.reduceSub, Nat.reduceMul, Int.reduceBEq, Int.reduceBNe, Int.reduceLT, Int.reduceLE, Int.reduceEq, reduceIte, reduceCtorEq, da, int, boolA, RetP_go, resT, resC, resN, retV1, retV2, retV3, retV0, frzFZ, takeM, Option.some.injEq, nodeC, e1, e2, k96, k98, h1, h2, h3, h4, Bool.false_and, Bool.true_and]
end Go.VI

set_option linter.unusedVariables false
set_option linter.unusedSimpArgs false
set_option maxRecDepth 100000
namespace Go.VI
attribute [local congr] AW_congr OW_congr DW_congr NW_congr VW_congr GW_congr PW_congr KW_congr ite_congr' GV_congr CV_congr
def kill (K : Heap) : AV → Heap
  | .sl id _ _ => K.set id .dead
  | _ => K
theorem kill_next (K : Heap) (S : AV) : (kill K S).next = K.next := by
  unfold kill
  split
  · exact Heap.next_set _ _ _
  · rfl
theorem kill_get {K : Heap} {S : AV} {sz : Nat} {rows : List (List AV)} (h : Rep K sz S rows) {j : Nat} {b : Blk} (hj : K.get j = some b) (hb : ∀ r, b ≠ .row false sz r) : (kill K S).get j = some b := by
  rcases h with ⟨rfl, _⟩ | ⟨id, rfl, hr⟩
  · exact hj
  · have : j ≠ id := fun e => by
      subst e
      rw [hj] at hr
      exact hb _ (Option.some.inj hr)
    show (K.set id .dead).get j = _
    rw [Heap.get_set_ne _ this, hj]
theorem appA_rep {K : Heap} {S : AV} {sz bytes nid : Nat} {rows : List (List AV)} (h : Rep K sz S rows) {xs : List (List AV)} (h0 : xs ≠ []) (hs : allSz sz xs = true) (hb : (rows.length + xs.length) * bytes ≤ 140737488355328) (L : List Blk) :
    appA nid (hx K L) sz bytes S xs = some (.sl nid 0 (rows.length + xs.length), (hx (kill K S) L).put nid (.row false sz (rows ++ xs))) := by
  have hl : xs.length ≠ 0 := fun e => h0 (List.eq_nil_of_length_eq_zero e)
  rcases h with ⟨rfl, rfl⟩ | ⟨id, rfl, hr⟩
  · rw [appA_nil, if_neg hl, if_pos ⟨by simpa using hb, hs⟩]
    simp [kill]
  · have lid := Heap.get_lt hr
    rw [appA_sl, hx_get_old K L id lid, hr]
    simp only
    rw [if_pos ⟨by trivial, by omega, hb, hs⟩, if_neg (by omega), hx_set_old K L _ id lid, List.drop_zero, List.take_of_length_le (Nat.le_refl _)]
    rfl
theorem kill_old {K : Heap} {S : AV} {sz : Nat} {rows : List (List AV)} (h : Rep K sz S rows) {j : Nat} {b : Blk} (hj : K.get j = some b) (hb : ∀ r, b ≠ .row false sz r) (L : List Blk) : (hx (kill K S) L).get j = some b := by
  rw [hx_get_old _ _ _ (by rw [kill_next]; exact Heap.get_lt hj)]
  exact kill_get h hj hb
theorem get_old {K : Heap} {j : Nat} {b : Blk} (hj : K.get j = some b) (L : List Blk) : (hx K L).get j = some b := by
  rw [hx_get_old _ _ _ (Heap.get_lt hj), hj]
/-- Nothing below a number has changed. -/
def Stay (B : Nat) (H H' : Heap) : Prop := H.next ≤ H'.next ∧ ∀ j, j < B → H'.get j = H.get j
theorem Stay.rfl' {B : Nat} {H : Heap} : Stay B H H := ⟨Nat.le_refl _, fun _ _ => rfl⟩
theorem Stay.trans {B : Nat} {H H' H'' : Heap} (h : Stay B H H') (h' : Stay B H' H'') : Stay B H H'' := ⟨Nat.le_trans h.1 h'.1, fun j hj => (h'.2 j hj).trans (h.2 j hj)⟩
theorem Stay.hx {B : Nat} {H : Heap} (L : List Blk) (h : B ≤ H.next) : Stay B H (hx H L) := ⟨by rw [hx_next]; omega, fun j hj => hx_get_old _ _ _ (by omega)⟩
theorem Stay.set {B : Nat} {H : Heap} {id : Nat} (b : Blk) (h : B ≤ id) : Stay B H (H.set id b) := ⟨by rw [Heap.next_set]; exact Nat.le_refl _, fun j hj => Heap.get_set_ne _ (by omega)⟩
/-- A slice that was made from a number on. -/
def RepB (B : Nat) (K : Heap) (sz : Nat) (S : AV) (rows : List (List AV)) : Prop := (S = .sc (.slice none 0 0) ∧ rows = []) ∨ ∃ id, B ≤ id ∧ S = .sl id 0 rows.length ∧ K.get id = some (.row false sz rows)
theorem RepB.kill {B : Nat} {K : Heap} {sz : Nat} {S : AV} {rows : List (List AV)} (h : RepB B K sz S rows) : Stay B K (kill K S) := by
  rcases h with ⟨rfl, _⟩ | ⟨id, hb, rfl, _⟩
  · exact .rfl'
  · exact .set _ hb
theorem RepB.mono {B : Nat} {K K' : Heap} {sz : Nat} {S : AV} {rows : List (List AV)} (h : RepB B K sz S rows) (hk : ∀ id, B ≤ id → K.get id = some (.row false sz rows) → K'.get id = some (.row false sz rows)) : RepB B K' sz S rows := by
  rcases h with h | ⟨id, hb, h1, h2⟩
  · exact .inl h
  · exact .inr ⟨id, hb, h1, hk id hb h2⟩
theorem rep_take {α : Type} (g : α → List AV) {l : List α} {i : Nat} (h : i < l.length) : (l.take (i + 1)).map g = (l.take i).map g ++ [g l[i]] := by
  rw [List.take_succ_eq_append_getElem h, List.map_append]; rfl
theorem frz_rep {K : Heap} {L : List Blk} {sz : Nat} {S : AV} {rows : List (List AV)} (h : Rep (hx K L) sz S rows) (n : Nat) : ∃ K', frz (n + 1) (hx K L) S = some (.lst rows, K') := by
  rcases h with ⟨rfl, rfl⟩ | ⟨id, rfl, h⟩
  · exact ⟨_, rfl⟩
  · refine ⟨(hx K L).set id (.row true sz rows), ?_⟩
    rw [frz_sl, h]
    simp
def intC (n : Int) : List AV := [int n]
def encZ (l : List Int) : AV := .lst (l.map intC)
theorem lenZ {H : Heap} (l : List Int) : lenV H 0 (encZ l) = some (.sc (.int .i64 (l.length : Int)), H) := by simp [lenV, lenOfA, encZ]
theorem atZ {H : Heap} {l : List Int} {i : Nat} (h : i < l.length) : iaddrA H none 1 (encZ l) (i : Int) = some (.pim (l.map intC) i 0) := iaddr_map h (fun _ => rfl)
theorem cZ {H : Heap} {l : List Int} {i off n : Nat} (h : i < l.length) : cellsAt H (.pim (l.map intC) i off) n = if off + n ≤ 1 then some (((intC l[i]).drop off).take n) else none := cells_map h
theorem one_Z (l : List Int) : (encZ l).one = true := rfl
theorem cs_Z (l : List Int) : (encZ l).cells = [encZ l] := rfl
def roomsM (g : Int) (n : NodeM) : List Int := if n.leaf then n.items.map (roomI g) else n.kids.map fun x => roomK g x.key
theorem l83a (g : Int) (n : NodeM) (hn : okN n) (hs : n.items.length ≤ 1000) {Q : AExit → Env → Heap → Prop}
   (hex : ∀ f' K S, Rep K 1 S ((n.items.map (roomI g)).map intC) → f' 5 = S → Q (.exit 0) (mkE 43 f') (hx K [])) :
   ∀ (d i : Nat) (S : AV) (K : Heap) (f : Nat → AV), i + d = n.items.length → Rep K 1 S (((n.items.take i).map (roomI g)).map intC) → f 1 = int g → f 5 = S → f 13 = encI n.items → f 14 = int n.items.length → f 15 = int i →
    AW ft (.loop c83L0) (mkE 43 f) (hx K []) Q := by
  intro d
  induction d with
  | zero =>
    intro i S K f hd hr h1 h5 h13 h14 h15
    have g : ((i : Int) < n.items.length) = False := by simp; omega
    rw [AW_loop]
    unfold c83L0
    rw [List.take_of_length_le (by omega)] at hr
    simp only [↓vp, vq0, vq1, vq2, vq3, vr0, vr1, vr2, vr3, vr4, vr5, vr6, vr7, vr8, vr9, vr10, vr11, vr12, vr13, vr14, vr15, vr16, vr17, vr18, vr19, vr20, vr21, vr22, vr23, vr24, vr25, vr26, vr27, vr28, vr29, vr30, vr31, vr32, vr33, vr34, opS, fpS, okP, pack, nAl, allocA, shId, leaves, fillA, fillR, splice, Nat.reduceLT, Nat.reduceEqDiff, Nat.reduceLeDiff, Nat.reduceAdd, Nat.reduceSub, Nat.reduceMul, Int.reduceBEq, Int.reduceBNe, Int.reduceLT, Int.reduceLE, Int.reduceEq, reduceIte, reduceCtorEq, da, int, boolA, h14, h15, g]
    refine hex _ K S hr ?_
    simp only [↓vp, vq0, vq1, vq2, vq3, vr0, vr1, vr2, vr3, vr4, vr5, vr6, vr7, vr8, vr9, vr10, vr11, vr12, vr13, vr14, vr15, vr16, vr17, vr18, vr19, vr20, vr21, vr22, vr23, vr24, vr25, vr26, vr27, vr28, vr29, vr30, vr31, vr32, vr33, vr34, opS, fpS, okP, pack, nAl, allocA, shId, leaves, fillA, fillR, splice, Nat.reduceLT, Nat.reduceEqDiff, Nat.reduceLeDiff, Nat.reduceAdd, Nat.reduceSub, Nat.reduceMul, Int.reduceBEq, Int.reduceBNe, Int.reduceLT, Int.reduceLE, Int.reduceEq, reduceIte, reduceCtorEq, da, int, boolA, h5]
  | succ d ih =>
    intro i S K f hd hr h1 h5 h13 h14 h15
    have g1 : ((i : Int) < n.items.length) = True := by simp; omega
    have gi : i < n.items.length := by omega
    have w1 := wrap_succ (show i < 9223372036854775807 by omega)
    have hh := (hn.i.at_ gi)
    have kk := fun K L Q => @k143 g _ hh K L Q
    simp only [itemC, kidC, int] at kk
    have ht : (((n.items.take (i + 1)).map (roomI g)).map intC) = (((n.items.take i).map (roomI g)).map intC) ++ [intC (roomI g n.items[i])] := by
      rw [List.take_succ_eq_append_getElem gi, List.map_append, List.map_append]; rfl
    have hlen : (((n.items.take i).map (roomI g)).map intC).length = i := by simp; omega
    have ap := fun nid L => appA_rep (nid := nid) (bytes := 8) hr (xs := [intC (roomI g n.items[i])]) (by simp) rfl (by rw [hlen]; simp; omega) L
    rw [hlen] at ap
    simp only [intC, int, List.length_singleton] at ap
    rw [AW_loop]
    unfold c83L0
    simp only [↓vp, vq0, vq1, vq2, vq3, vr0, vr1, vr2, vr3, vr4, vr5, vr6, vr7, vr8, vr9, vr10, vr11, vr12, vr13, vr14, vr15, vr16, vr17, vr18, vr19, vr20, vr21, vr22, vr23, vr24, vr25, vr26, vr27, vr28, vr29, vr30, vr31, vr32, vr33, vr34, opS, fpS, okP, pack, nAl, allocA, shId, leaves, fillA, fillR, splice, Nat.reduceLT, Nat.reduceEqDiff, Nat.reduceLeDiff, Nat.reduceAdd, Nat.reduceSub, Nat.reduceMul, Int.reduceBEq, Int.reduceBNe, Int.reduceLT, Int.reduceLE, Int.reduceEq, reduceIte, reduceCtorEq, da, int, boolA, h1, h5, h13, h14, h15, g1, atI gi, cI gi, itemC, kk, ap, kill_next, w1]
    rw [← hx_nil (hx _ _)]
    refine ih (i + 1) (.sl (K.next + 2) 0 (i + 1)) _ _ (by omega) (.inr ⟨K.next + 2, ?_, ?_⟩) ?_ ?_ ?_ ?_ ?_
    · rw [ht, List.length_append, hlen]
      rfl
    · rw [ht]
      simp only [↓vp, vq0, vq1, vq2, vq3, vr0, vr1, vr2, vr3, vr4, vr5, vr6, vr7, vr8, vr9, vr10, vr11, vr12, vr13, vr14, vr15, vr16, vr17, vr18, vr19, vr20, vr21, vr22, vr23, vr24, vr25, vr26, vr27, vr28, vr29, vr30, vr31, vr32, vr33, vr34, opS, fpS, okP, pack, nAl, allocA, shId, leaves, fillA, fillR, splice, Nat.reduceLT, Nat.reduceEqDiff, Nat.reduceLeDiff, Nat.reduceAdd, Nat.reduceSub, Nat.reduceMul, Int.reduceBEq, Int.reduceBNe, Int.reduceLT, Int.reduceLE, Int.reduceEq, reduceIte, reduceCtorEq, kill_next]
      rfl
    all_goals simp only [↓vp, vq0, vq1, vq2, vq3, vr0, vr1, vr2, vr3, vr4, vr5, vr6, vr7, vr8, vr9, vr10, vr11, vr12, vr13, vr14, vr15, vr16, vr17, vr18, vr19, vr20, vr21, vr22, vr23, vr24, vr25, vr26, vr27, vr28, vr29, vr30, vr31, vr32, vr33, vr34, opS, fpS, okP, pack, nAl, allocA, shId, leaves, fillA, fillR, splice, Nat.reduceLT, Nat.reduceEqDiff, Nat.reduceLeDiff, Nat.reduceAdd, Nat.reduceSub, Nat.reduceMul, Int.reduceBEq, Int.reduceBNe, Int.reduceLT, Int.reduceLE, Int.reduceEq, reduceIte, reduceCtorEq, da, int, boolA, h1, h13, h14]
theorem l83b (g : Int) (n : NodeM) (hn : okN n) (hs : n.kids.length ≤ 1000) {Q : AExit → Env → Heap → Prop}
   (hex : ∀ f' K S, Rep K 1 S ((n.kids.map (fun x => roomK g x.key)).map intC) → f' 5 = S → Q (.exit 2) (mkE 43 f') (hx K [])) :
   ∀ (d i : Nat) (S : AV) (K : Heap) (f : Nat → AV), i + d = n.kids.length → Rep K 1 S (((n.kids.take i).map (fun x => roomK g x.key)).map intC) → f 1 = int g → f 5 = S → f 28 = encK n.kids → f 29 = int n.kids.length → f 30 = int i →
    AW ft (.loop c83L2) (mkE 43 f) (hx K []) Q := by
  intro d
  induction d with
  | zero =>
    intro i S K f hd hr h1 h5 h13 h14 h15
    have g : ((i : Int) < n.kids.length) = False := by simp; omega
    rw [AW_loop]
    unfold c83L2
    rw [List.take_of_length_le (by omega)] at hr
    simp only [↓vp, vq0, vq1, vq2, vq3, vr0, vr1, vr2, vr3, vr4, vr5, vr6, vr7, vr8, vr9, vr10, vr11, vr12, vr13, vr14, vr15, vr16, vr17, vr18, vr19, vr20, vr21, vr22, vr23, vr24, vr25, vr26, vr27, vr28, vr29, vr30, vr31, vr32, vr33, vr34, opS, fpS, okP, pack, nAl, allocA, shId, leaves, fillA, fillR, splice, Nat.reduceLT, Nat.reduceEqDiff, Nat.reduceLeDiff, Nat.reduceAdd, Nat.reduceSub, Nat.reduceMul, Int.reduceBEq, Int.reduceBNe, Int.reduceLT, Int.reduceLE, Int.reduceEq, reduceIte, reduceCtorEq, da, int, boolA, h14, h15, g]
    refine hex _ K S hr ?_
    simp only [↓vp, vq0, vq1, vq2, vq3, vr0, vr1, vr2, vr3, vr4, vr5, vr6, vr7, vr8, vr9, vr10, vr11, vr12, vr13, vr14, vr15, vr16, vr17, vr18, vr19, vr20, vr21, vr22, vr23, vr24, vr25, vr26, vr27, vr28, vr29, vr30, vr31, vr32, vr33, vr34, opS, fpS, okP, pack, nAl, allocA, shId, leaves, fillA, fillR, splice, Nat.reduceLT, Nat.reduceEqDiff, Nat.reduceLeDiff, Nat.reduceAdd, Nat.reduceSub, Nat.reduceMul, Int.reduceBEq, Int.reduceBNe, Int.reduceLT, Int.reduceLE, Int.reduceEq, reduceIte, reduceCtorEq, da, int, boolA, h5]
  | succ d ih =>
    intro i S K f hd hr h1 h5 h13 h14 h15
    have g1 : ((i : Int) < n.kids.length) = True := by simp; omega
    have gi : i < n.kids.length := by omega
    have w1 := wrap_succ (show i < 9223372036854775807 by omega)
    have hh := (hn.k.at_ gi)
    have kk := fun K L Q => @k144 g _ hh K L Q
    simp only [itemC, kidC, int] at kk
    have ht : (((n.kids.take (i + 1)).map (fun x => roomK g x.key)).map intC) = (((n.kids.take i).map (fun x => roomK g x.key)).map intC) ++ [intC (roomK g n.kids[i].key)] := by
      rw [List.take_succ_eq_append_getElem gi, List.map_append, List.map_append]; rfl
    have hlen : (((n.kids.take i).map (fun x => roomK g x.key)).map intC).length = i := by simp; omega
    have ap := fun nid L => appA_rep (nid := nid) (bytes := 8) hr (xs := [intC (roomK g n.kids[i].key)]) (by simp) rfl (by rw [hlen]; simp; omega) L
    rw [hlen] at ap
    simp only [intC, int, List.length_singleton] at ap
    rw [AW_loop]
    unfold c83L2
    simp only [↓vp, vq0, vq1, vq2, vq3, vr0, vr1, vr2, vr3, vr4, vr5, vr6, vr7, vr8, vr9, vr10, vr11, vr12, vr13, vr14, vr15, vr16, vr17, vr18, vr19, vr20, vr21, vr22, vr23, vr24, vr25, vr26, vr27, vr28, vr29, vr30, vr31, vr32, vr33, vr34, opS, fpS, okP, pack, nAl, allocA, shId, leaves, fillA, fillR, splice, Nat.reduceLT, Nat.reduceEqDiff, Nat.reduceLeDiff, Nat.reduceAdd, Nat.reduceSub, Nat.reduceMul, Int.reduceBEq, Int.reduceBNe, Int.reduceLT, Int.reduceLE, Int.reduceEq, reduceIte, reduceCtorEq, da, int, boolA, h1, h5, h13, h14, h15, g1, atK gi, cK gi, kidC, kk, ap, kill_next, w1]
    rw [← hx_nil (hx _ _)]
    refine ih (i + 1) (.sl (K.next + 2) 0 (i + 1)) _ _ (by omega) (.inr ⟨K.next + 2, ?_, ?_⟩) ?_ ?_ ?_ ?_ ?_
    · rw [ht, List.length_append, hlen]
      rfl
    · rw [ht]
      simp only [↓vp, vq0, vq1, vq2, vq3, vr0, vr1, vr2, vr3, vr4, vr5, vr6, vr7, vr8, vr9, vr10, vr11, vr12, vr13, vr14, vr15, vr16, vr17, vr18, vr19, vr20, vr21, vr22, vr23, vr24, vr25, vr26, vr27, vr28, vr29, vr30, vr31, vr32, vr33, vr34, opS, fpS, okP, pack, nAl, allocA, shId, leaves, fillA, fillR, splice, Nat.reduceLT, Nat.reduceEqDiff, Nat.reduceLeDiff, Nat.reduceAdd, Nat.reduceSub, Nat.reduceMul, Int.reduceBEq, Int.reduceBNe, Int.reduceLT, Int.reduceLE, Int.reduceEq, reduceIte, reduceCtorEq, kill_next]
      rfl
    all_goals simp only [↓vp, vq0, vq1, vq2, vq3, vr0, vr1, vr2, vr3, vr4, vr5, vr6, vr7, vr8, vr9, vr10, vr11, vr12, vr13, vr14, vr15, vr16, vr17, vr18, vr19, vr20, vr21, vr22, vr23, vr24, vr25, vr26, vr27, vr28, vr29, vr30, vr31, vr32, vr33, vr34, opS, fpS, okP, pack, nAl, allocA, shId, leaves, fillA, fillR, splice, Nat.reduceLT, Nat.reduceEqDiff, Nat.reduceLeDiff, Nat.reduceAdd, Nat.reduceSub, Nat.reduceMul, Int.reduceBEq, Int.reduceBNe, Int.reduceLT, Int.reduceLE, Int.reduceEq, reduceIte, reduceCtorEq, da, int, boolA, h1, h13, h14]
theorem s83 (g : Int) (n : NodeM) (hn : okN n) (h1 : n.items.length ≤ 1000) (h2 : n.kids.length ≤ 1000) (H : Heap) : callL ft (.fn (.func 83) [] []) [.agg (nodeC n), int g] H = some (encZ (roomsM g n), H) := by
  refine call_p (as' := [.agg (nodeC n), int g]) rfl rfl (by simp) ?_
  unfold c83 r83 roomsM
  cases e : n.leaf with
  | true =>
    simp only [↓vp, vq0, vq1, vq2, vq3, vr0, vr1, vr2, vr3, vr4, vr5, vr6, vr7, vr8, vr9, vr10, vr11, vr12, vr13, vr14, vr15, vr16, vr17, vr18, vr19, vr20, vr21, vr22, vr23, vr24, vr25, vr26, vr27, vr28, vr29, vr30, vr31, vr32, vr33, vr34, opS, fpS, okP, pack, nAl, allocA, shId, leaves, fillA, fillR, splice, Nat.reduceLT, Nat.reduceEqDiff, Nat.reduceLeDiff, Nat.reduceAdd, Nat.reduceSub, Nat.reduceMul, Int.reduceBEq, Int.reduceBNe, Int.reduceLT, Int.reduceLE, Int.reduceEq, reduceIte, reduceCtorEq, da, int, boolA, nodeC, e]
    rw [← hx_nil (hx _ _)]
    refine l83a g n hn h1 (fun f' K S hr q5 => ?_) n.items.length 0 (.sc (.slice none 0 0)) _ _ (by simp) (.inl ⟨rfl, by simp⟩) ?_ ?_ ?_ ?_ ?_
    · unfold c83R1
      obtain ⟨K', hK'⟩ := frz_rep (L := []) (by rw [hx_nil]; exact hr) 23
      simp only [↓vp, vq0, vq1, vq2, vq3, vr0, vr1, vr2, vr3, vr4, vr5, vr6, vr7, vr8, vr9, vr10, vr11, vr12, vr13, vr14, vr15, vr16, vr17, vr18, vr19, vr20, vr21, vr22, vr23, vr24, vr25, vr26, vr27, vr28, vr29, vr30, vr31, vr32, vr33, vr34, opS, fpS, okP, pack, nAl, allocA, shId, leaves, fillA, fillR, splice, Nat.reduceLT, Nat.reduceEqDiff, Nat.reduceLeDiff, Nat.reduceAdd, Nat.reduceSub, Nat.reduceMul, Int.reduceBEq, Int.reduceBNe, Int.reduceLT, Int.reduceLE, Int.reduceEq, reduceIte, reduceCtorEq, da, int, boolA, RetP_go, resT, resC, resN, retV1, retV2, retV3, retV0, frzFZ, takeM, Option.some.injEq, q5, hK']
      rfl
    all_goals first | rfl | (simp only [↓vp, vq0, vq1, vq2, vq3, vr0, vr1, vr2, vr3, vr4, vr5, vr6, vr7, vr8, vr9, vr10, vr11, vr12, vr13, vr14, vr15, vr16, vr17, vr18, vr19, vr20, vr21, vr22, vr23, vr24, vr25, vr26, vr27, vr28, vr29, vr30, vr31, vr32, vr33, vr34, opS, fpS, okP, pack, nAl, allocA, shId, leaves, fillA, fillR, splice, Nat.reduceLT, Nat.reduceEqDiff, Nat.reduceLeDiff, Nat.reduceAdd, Nat.reduceSub, Nat.reduceMul, Int.reduceBEq, Int.reduceBNe, Int.reduceLT, Int.reduceLE, Int.reduceEq, reduceIte, reduceCtorEq, da, int, boolA]; done)
  | false =>
    simp only [↓vp, vq0, vq1, vq2, vq3, vr0, vr1, vr2, vr3, vr4, vr5, vr6, vr7, vr8, vr9, vr10, vr11, vr12, vr13, vr14, vr15, vr16, vr17, vr18, vr19, vr20, vr21, vr22, vr23, vr24, vr25, vr26, vr27, vr28, vr29, vr30, vr31, vr32, vr33, vr34, opS, fpS, okP, pack, nAl, allocA, shId, leaves, fillA, fillR, splice, Nat.reduceLT, Nat.reduceEqDiff, Nat.reduceLeDiff, Nat.reduceAdd, Nat.reduceSub, Nat.reduceMul, Int.reduceBEq, Int.reduceBNe, Int.reduceLT, Int.reduceLE, Int.reduceEq, reduceIte, reduceCtorEq, da, int, boolA, nodeC, e, c83R4]
    rw [← hx_nil (hx _ _)]
    refine l83b g n hn h2 (fun f' K S hr q5 => ?_) n.kids.length 0 (.sc (.slice none 0 0)) _ _ (by simp) (.inl ⟨rfl, by simp⟩) ?_ ?_ ?_ ?_ ?_
    · unfold c83R3
      obtain ⟨K', hK'⟩ := frz_rep (L := []) (by rw [hx_nil]; exact hr) 23
      simp only [↓vp, vq0, vq1, vq2, vq3, vr0, vr1, vr2, vr3, vr4, vr5, vr6, vr7, vr8, vr9, vr10, vr11, vr12, vr13, vr14, vr15, vr16, vr17, vr18, vr19, vr20, vr21, vr22, vr23, vr24, vr25, vr26, vr27, vr28, vr29, vr30, vr31, vr32, vr33, vr34, opS, fpS, okP, pack, nAl, allocA, shId, leaves, fillA, fillR, splice, Nat.reduceLT, Nat.reduceEqDiff, Nat.reduceLeDiff, Nat.reduceAdd, Nat.reduceSub, Nat.reduceMul, Int.reduceBEq, Int.reduceBNe, Int.reduceLT, Int.reduceLE, Int.reduceEq, reduceIte, reduceCtorEq, da, int, boolA, RetP_go, resT, resC, resN, retV1, retV2, retV3, retV0, frzFZ, takeM, Option.some.injEq, q5, hK']
      rfl
    all_goals first | rfl | (simp only [↓vp, vq0, vq1, vq2, vq3, vr0, vr1, vr2, vr3, vr4, vr5, vr6, vr7, vr8, vr9, vr10, vr11, vr12, vr13, vr14, vr15, vr16, vr17, vr18, vr19, vr20, vr21, vr22, vr23, vr24, vr25, vr26, vr27, vr28, vr29, vr30, vr31, vr32, vr33, vr34, opS, fpS, okP, pack, nAl, allocA, shId, leaves, fillA, fillR, splice, Nat.reduceLT, Nat.reduceEqDiff, Nat.reduceLeDiff, Nat.reduceAdd, Nat.reduceSub, Nat.reduceMul, Int.reduceBEq, Int.reduceBNe, Int.reduceLT, Int.reduceLE, Int.reduceEq, reduceIte, reduceCtorEq, da, int, boolA]; done)
theorem k83 {g : Int} {n : NodeM} (hn : okN n) (h1 : n.items.length ≤ 1000) (h2 : n.kids.length ≤ 1000) {K : Heap} {L : List Blk} {Q : AV → Heap → Prop} : KW ft (.fn (.func 83) [] []) [.agg (nodeC n), int g] (hx K L) Q ↔ Q (encZ (roomsM g n)) (hx K L) := KW_of (s83 g n hn h1 h2 _)
def sumZ : List Int → Int
  | [] => 0
  | x :: r => x + sumZ r
theorem sumZ_app : ∀ a b : List Int, sumZ (a ++ b) = sumZ a + sumZ b
  | [], b => by simp [sumZ]
  | x :: a, b => by simp only [List.cons_append, sumZ, sumZ_app a b]; omega
def small (l : List Int) : Prop := ∀ x ∈ l, 0 ≤ x ∧ x ≤ 1000000000000000
theorem sumZ_small : ∀ {l : List Int}, small l → 0 ≤ sumZ l ∧ sumZ l ≤ l.length * 1000000000000000
  | [], _ => by simp [sumZ]
  | x :: r, h => by
    have h1 := h x (by simp)
    have h2 := sumZ_small (l := r) (fun y hy => h y (by simp [hy]))
    simp only [sumZ, List.length_cons]
    omega
theorem small.take {l : List Int} (h : small l) (n : Nat) : small (l.take n) := fun x hx => h x (List.mem_of_mem_take hx)
theorem roomI_small (g : Int) {x : ItemM} (h : okIt x) : 0 ≤ roomI g x ∧ roomI g x ≤ 1000000000000000 := by
  have b1 := h.k.n
  have b2 := h.v.n
  have b3 := idw_bound g
  unfold MX at b1 b2
  unfold roomI
  split
  · split <;> omega
  · omega
theorem roomK_small (g : Int) {k : Bytes} (h : okB k) : 0 ≤ roomK g k ∧ roomK g k ≤ 1000000000000000 := by
  have b1 := h.n
  have b3 := idw_bound g
  unfold MX at b1
  unfold roomK
  split <;> omega
theorem rooms_small (g : Int) {n : NodeM} (h : okN n) : small (roomsM g n) := by
  intro x hx
  unfold roomsM at hx
  split at hx
  · obtain ⟨y, hy, rfl⟩ := List.mem_map.1 hx
    exact roomI_small g (h.i.h y hy)
  · obtain ⟨y, hy, rfl⟩ := List.mem_map.1 hx
    exact roomK_small g (h.k.h y hy)
def roomM (g : Int) (n : NodeM) : Int := sumZ (roomsM g n)
theorem rooms_len (g : Int) {n : NodeM} (h1 : n.items.length ≤ 1000) (h2 : n.kids.length ≤ 1000) : (roomsM g n).length ≤ 1000 := by
  unfold roomsM
  split <;> simpa
theorem l80 (l : List Int) (hl : l.length ≤ 1000) (hs : small l) {Q : AExit → Env → Heap → Prop} (hex : ∀ f' K, f' 5 = int (sumZ l) → Q (.exit 0) (mkE 21 f') (hx K [])) :
   ∀ (d i : Nat) (K : Heap) (f : Nat → AV), i + d = l.length → f 5 = int (sumZ (l.take i)) → f 10 = encZ l → f 11 = int l.length → f 12 = int i →
    AW ft (.loop c80L0) (mkE 21 f) (hx K []) Q := by
  intro d
  induction d with
  | zero =>
    intro i K f hd h5 h10 h11 h12
    have g : ((i : Int) < l.length) = False := by simp; omega
    rw [AW_loop]
    unfold c80L0
    rw [List.take_of_length_le (by omega)] at h5
    simp only [↓vp, vq0, vq1, vq2, vq3, vr0, vr1, vr2, vr3, vr4, vr5, vr6, vr7, vr8, vr9, vr10, vr11, vr12, vr13, vr14, vr15, vr16, vr17, vr18, vr19, vr20, vr21, vr22, vr23, vr24, vr25, vr26, vr27, vr28, vr29, vr30, vr31, vr32, vr33, vr34, opS, fpS, okP, pack, nAl, allocA, shId, leaves, fillA, fillR, splice, Nat.reduceLT, Nat.reduceEqDiff, Nat.reduceLeDiff, Nat.reduceAdd, Nat.reduceSub, Nat.reduceMul, Int.reduceBEq, Int.reduceBNe, Int.reduceLT, Int.reduceLE, Int.reduceEq, reduceIte, reduceCtorEq, da, int, boolA, h11, h12, g]
    refine hex _ _ ?_
    simp only [↓vp, vq0, vq1, vq2, vq3, vr0, vr1, vr2, vr3, vr4, vr5, vr6, vr7, vr8, vr9, vr10, vr11, vr12, vr13, vr14, vr15, vr16, vr17, vr18, vr19, vr20, vr21, vr22, vr23, vr24, vr25, vr26, vr27, vr28, vr29, vr30, vr31, vr32, vr33, vr34, opS, fpS, okP, pack, nAl, allocA, shId, leaves, fillA, fillR, splice, Nat.reduceLT, Nat.reduceEqDiff, Nat.reduceLeDiff, Nat.reduceAdd, Nat.reduceSub, Nat.reduceMul, Int.reduceBEq, Int.reduceBNe, Int.reduceLT, Int.reduceLE, Int.reduceEq, reduceIte, reduceCtorEq, da, int, boolA, h5]
  | succ d ih =>
    intro i K f hd h5 h10 h11 h12
    have g : ((i : Int) < l.length) = True := by simp; omega
    have gi : i < l.length := by omega
    have w1 := wrap_succ (show i < 9223372036854775807 by omega)
    have e1 : sumZ (l.take (i + 1)) = sumZ (l.take i) + l[i] := by
      rw [List.take_succ_eq_append_getElem gi, sumZ_app]
      simp [sumZ]
    have b1 := sumZ_small (hs.take (i + 1))
    have b2 : (l.take (i + 1)).length ≤ 1000 := by simp; omega
    have w2 : IntKind.i64.wrap (sumZ (l.take i) + l[i]) = sumZ (l.take (i + 1)) := by rw [← e1, wrap_i64 (by omega)]
    rw [AW_loop]
    unfold c80L0
    simp only [↓vp, vq0, vq1, vq2, vq3, vr0, vr1, vr2, vr3, vr4, vr5, vr6, vr7, vr8, vr9, vr10, vr11, vr12, vr13, vr14, vr15, vr16, vr17, vr18, vr19, vr20, vr21, vr22, vr23, vr24, vr25, vr26, vr27, vr28, vr29, vr30, vr31, vr32, vr33, vr34, opS, fpS, okP, pack, nAl, allocA, shId, leaves, fillA, fillR, splice, Nat.reduceLT, Nat.reduceEqDiff, Nat.reduceLeDiff, Nat.reduceAdd, Nat.reduceSub, Nat.reduceMul, Int.reduceBEq, Int.reduceBNe, Int.reduceLT, Int.reduceLE, Int.reduceEq, reduceIte, reduceCtorEq, da, int, boolA, h5, h10, h11, h12, g, atZ gi, cZ gi, intC, w1, w2]
    refine ih (i + 1) _ _ (by omega) ?_ ?_ ?_ ?_ <;> simp only [↓vp, vq0, vq1, vq2, vq3, vr0, vr1, vr2, vr3, vr4, vr5, vr6, vr7, vr8, vr9, vr10, vr11, vr12, vr13, vr14, vr15, vr16, vr17, vr18, vr19, vr20, vr21, vr22, vr23, vr24, vr25, vr26, vr27, vr28, vr29, vr30, vr31, vr32, vr33, vr34, opS, fpS, okP, pack, nAl, allocA, shId, leaves, fillA, fillR, splice, Nat.reduceLT, Nat.reduceEqDiff, Nat.reduceLeDiff, Nat.reduceAdd, Nat.reduceSub, Nat.reduceMul, Int.reduceBEq, Int.reduceBNe, Int.reduceLT, Int.reduceLE, Int.reduceEq, reduceIte, reduceCtorEq, da, int, boolA, h10, h11]
theorem s80 (g : Int) (n : NodeM) (hn : okN n) (h1 : n.items.length ≤ 1000) (h2 : n.kids.length ≤ 1000) (H : Heap) : callL ft (.fn (.func 80) [] []) [int g, .agg (nodeC n)] H = some (int (roomM g n), H) := by
  refine call_p (as' := [int g, .agg (nodeC n)]) rfl rfl (by simp) ?_
  unfold c80 r80
  have kk := fun K L Q => @k83 g n hn h1 h2 K L Q
  simp only [int] at kk
  simp only [↓vp, vq0, vq1, vq2, vq3, vr0, vr1, vr2, vr3, vr4, vr5, vr6, vr7, vr8, vr9, vr10, vr11, vr12, vr13, vr14, vr15, vr16, vr17, vr18, vr19, vr20, vr21, vr22, vr23, vr24, vr25, vr26, vr27, vr28, vr29, vr30, vr31, vr32, vr33, vr34, opS, fpS, okP, pack, nAl, allocA, shId, leaves, fillA, fillR, splice, Nat.reduceLT, Nat.reduceEqDiff, Nat.reduceLeDiff, Nat.reduceAdd, Nat.reduceSub, Nat.reduceMul, Int.reduceBEq, Int.reduceBNe, Int.reduceLT, Int.reduceLE, Int.reduceEq, reduceIte, reduceCtorEq, da, int, boolA, kk, one_Z, cs_Z, lenZ]
  rw [← hx_nil (hx _ _)]
  refine l80 (roomsM g n) (rooms_len g h1 h2) (rooms_small g hn) (fun f' K q5 => ?_) (roomsM g n).length 0 _ _ (by simp) ?_ ?_ ?_ ?_
  · unfold c80R1
    simp only [↓vp, vq0, vq1, vq2, vq3, vr0, vr1, vr2, vr3, vr4, vr5, vr6, vr7, vr8, vr9, vr10, vr11, vr12, vr13, vr14, vr15, vr16, vr17, vr18, vr19, vr20, vr21, vr22, vr23, vr24, vr25, vr26, vr27, vr28, vr29, vr30, vr31, vr32, vr33, vr34, opS, fpS, okP, pack, nAl, allocA, shId, leaves, fillA, fillR, splice, Nat.reduceLT, Nat.reduceEqDiff, Nat.reduceLeDiff, Nat.reduceAdd, Nat.reduceSub, Nat.reduceMul, Int.reduceBEq, Int.reduceBNe, Int.reduceLT, Int.reduceLE, Int.reduceEq, reduceIte, reduceCtorEq, da, int, boolA, RetP_go, resT, resC, resN, retV1, retV2, retV3, retV0, frzFZ, takeM, Option.some.injEq, q5]
    rfl
  all_goals first | rfl | (simp only [↓vp, vq0, vq1, vq2, vq3, vr0, vr1, vr2, vr3, vr4, vr5, vr6, vr7, vr8, vr9, vr10, vr11, vr12, vr13, vr14, vr15, vr16, vr17, vr18, vr19, vr20, vr21, vr22, vr23, vr24, vr25, vr26, vr27, vr28, vr29, vr30, vr31, vr32, vr33, vr34, opS, fpS, okP, pack, nAl, allocA, shId, leaves, fillA, fillR, splice, Nat.reduceLT, Nat.reduceEqDiff, Nat.reduceLeDiff, Nat.reduceAdd, Nat.reduceSub, Nat.reduceMul, Int.reduceBEq, Int.reduceBNe, Int.reduceLT, Int.reduceLE, Int.reduceEq, reduceIte, reduceCtorEq, da, int, boolA]; done)
theorem k80 {g : Int} {n : NodeM} (hn : okN n) (h1 : n.items.length ≤ 1000) (h2 : n.kids.length ≤ 1000) {K : Heap} {L : List Blk} {Q : AV → Heap → Prop} : KW ft (.fn (.func 80) [] []) [int g, .agg (nodeC n)] (hx K L) Q ↔ Q (int (roomM g n)) (hx K L) := KW_of (s80 g n hn h1 h2 _)
def fitsM (g : Int) (n : NodeM) : Bool := decide (roomM g n ≤ capG g)
theorem s26 (g : Int) (n : NodeM) (hn : okN n) (h1 : n.items.length ≤ 1000) (h2 : n.kids.length ≤ 1000) (H : Heap) : callL ft (.fn (.func 26) [] []) [int g, .agg (nodeC n)] H = some (boolA (fitsM g n), H) := by
  refine call_p (as' := [int g, .agg (nodeC n)]) rfl rfl (by simp) ?_
  unfold c26 r26
  have kk := fun K L Q => @k80 g n hn h1 h2 K L Q
  have k2 := fun g K L Q => @k90 g K L Q
  simp only [int] at kk k2
  simp only [↓vp, vq0, vq1, vq2, vq3, vr0, vr1, vr2, vr3, vr4, vr5, vr6, vr7, vr8, vr9, vr10, vr11, vr12, vr13, vr14, vr15, vr16, vr17, vr18, vr19, vr20, vr21, vr22, vr23, vr24, vr25, vr26, vr27, vr28, vr29, vr30, vr31, vr32, vr33, vr34, opS, fpS, okP, pack, nAl, allocA, shId, leaves, fillA, fillR, splice, Nat.reduceLT, Nat.reduceEqDiff, Nat.reduceLeDiff, Nat.reduceAdd, Nat.reduceSub, Nat.reduceMul, Int.reduceBEq, Int.reduceBNe, Int.reduceLT, Int.reduceLE, Int.reduceEq, reduceIte, reduceCtorEq, da, int, boolA, RetP_go, resT, resC, resN, retV1, retV2, retV3, retV0, frzFZ, takeM, Option.some.injEq, kk, k2]
  rfl
theorem k26 {g : Int} {n : NodeM} (hn : okN n) (h1 : n.items.length ≤ 1000) (h2 : n.kids.length ≤ 1000) {K : Heap} {L : List Blk} {Q : AV → Heap → Prop} : KW ft (.fn (.func 26) [] []) [int g, .agg (nodeC n)] (hx K L) Q ↔ Q (boolA (fitsM g n)) (hx K L) := KW_of (s26 g n hn h1 h2 _)
end Go.VI

set_option linter.unusedVariables false
set_option linter.unusedSimpArgs false
set_option maxRecDepth 100000
namespace Go.VI
attribute [local congr] AW_congr OW_congr DW_congr NW_congr VW_congr GW_congr PW_congr KW_congr ite_congr' GV_congr CV_congr
theorem k34 {n : NodeM} {K : Heap} {L : List Blk} {Q : AV → Heap → Prop} : KW ft (.fn (.func 34) [] []) [.agg (nodeC n)] (hx K L) Q ↔ Q (int (manyN n)) (hx K L) := KW_of (s34 n _)
theorem many_rooms (g : Int) (n : NodeM) : manyN n = ((roomsM g n).length : Nat) := by
  unfold manyN roomsM
  split <;> simp
theorem s104 (g : Int) (n : NodeM) (hn : okN n) (k : Nat) (hk : k < (roomsM g n).length) (H : Heap) : callL ft (.fn (.func 104) [] []) [int g, .agg (nodeC n), int k] H = some (int (roomsM g n)[k], H) := by
  refine call_p (as' := [int g, .agg (nodeC n), int k]) rfl rfl (by simp) ?_
  unfold c104 r104
  have k3 := fun g K L Q => @k157 g K L Q
  have p3 : pureV ft (.fn (.func 157) [] []) [.sc (.int .i64 g)] = some (false, []) := rfl
  simp only [int] at k3
  have hz : gen g = false → (roomsM g n)[k] = 0 := fun h => by
    unfold roomsM
    split <;> simp [roomI, roomK, h]
  by_cases g1 : g < 1
  · have h := (gen_iff g).1 (.inl g1)
    simp only [↓vp, vq0, vq1, vq2, vq3, vr0, vr1, vr2, vr3, vr4, vr5, vr6, vr7, vr8, vr9, vr10, vr11, vr12, vr13, vr14, vr15, vr16, vr17, vr18, vr19, vr20, vr21, vr22, vr23, vr24, vr25, vr26, vr27, vr28, vr29, vr30, vr31, vr32, vr33, vr34, opS, fpS, okP, pack, nAl, allocA, shId, leaves, fillA, fillR, splice, Nat.reduceLT, Nat.reduceEqDiff, Nat.reduceLeDiff, Nat.reduceAdd, Nat.reduceSub, Nat.reduceMul, Int.reduceBEq, Int.reduceBNe, Int.reduceLT, Int.reduceLE, Int.reduceEq, reduceIte, reduceCtorEq, da, int, boolA, RetP_go, resT, resC, resN, retV1, retV2, retV3, retV0, frzFZ, takeM, Option.some.injEq, g1, hz h]
  by_cases g2 : g > 3
  · have h := (gen_iff g).1 (.inr g2)
    simp only [↓vp, vq0, vq1, vq2, vq3, vr0, vr1, vr2, vr3, vr4, vr5, vr6, vr7, vr8, vr9, vr10, vr11, vr12, vr13, vr14, vr15, vr16, vr17, vr18, vr19, vr20, vr21, vr22, vr23, vr24, vr25, vr26, vr27, vr28, vr29, vr30, vr31, vr32, vr33, vr34, opS, fpS, okP, pack, nAl, allocA, shId, leaves, fillA, fillR, splice, Nat.reduceLT, Nat.reduceEqDiff, Nat.reduceLeDiff, Nat.reduceAdd, Nat.reduceSub, Nat.reduceMul, Int.reduceBEq, Int.reduceBNe, Int.reduceLT, Int.reduceLE, Int.reduceEq, reduceIte, reduceCtorEq, da, int, boolA, RetP_go, resT, resC, resN, retV1, retV2, retV3, retV0, frzFZ, takeM, Option.some.injEq, g1, g2, hz h]
  have h : gen g = true := by
    cases e : gen g with
    | true => rfl
    | false => exact absurd ((gen_iff g).2 e) (by omega)
  cases e : n.leaf with
  | true =>
    have gi : k < n.items.length := by
      unfold roomsM at hk
      rw [e] at hk
      simpa using hk
    have hr : (roomsM g n)[k] = roomI g n.items[k] := by simp [roomsM, e]
    have kk := fun K L Q => @k156 g _ (hn.i.at_ gi) K L Q
    simp only [int] at kk
    simp only [↓vp, vq0, vq1, vq2, vq3, vr0, vr1, vr2, vr3, vr4, vr5, vr6, vr7, vr8, vr9, vr10, vr11, vr12, vr13, vr14, vr15, vr16, vr17, vr18, vr19, vr20, vr21, vr22, vr23, vr24, vr25, vr26, vr27, vr28, vr29, vr30, vr31, vr32, vr33, vr34, opS, fpS, okP, pack, nAl, allocA, shId, leaves, fillA, fillR, splice, Nat.reduceLT, Nat.reduceEqDiff, Nat.reduceLeDiff, Nat.reduceAdd, Nat.reduceSub, Nat.reduceMul, Int.reduceBEq, Int.reduceBNe, Int.reduceLT, Int.reduceLE, Int.reduceEq, reduceIte, reduceCtorEq, da, int, boolA, RetP_go, resT, resC, resN, retV1, retV2, retV3, retV0, frzFZ, takeM, Option.some.injEq, g1, g2, e, atI gi, cI gi, kk, hr]
  | false =>
    have gi : k < n.kids.length := by
      unfold roomsM at hk
      rw [e] at hk
      simpa using hk
    have hr : (roomsM g n)[k] = 1 + n.kids[k].key.length + idw g := by simp [roomsM, e, roomK, h]
    have b1 := (hn.k.at_ gi).n
    have b3 := idw_bound g
    unfold MX at b1
    have w1 : IntKind.i64.wrap (1 + (n.kids[k].key.length : Int)) = 1 + n.kids[k].key.length := wrap_i64 (by omega)
    have w3 : IntKind.i64.wrap (1 + (n.kids[k].key.length : Int) + idw g) = 1 + n.kids[k].key.length + idw g := wrap_i64 (by omega)
    simp only [↓vp, vq0, vq1, vq2, vq3, vr0, vr1, vr2, vr3, vr4, vr5, vr6, vr7, vr8, vr9, vr10, vr11, vr12, vr13, vr14, vr15, vr16, vr17, vr18, vr19, vr20, vr21, vr22, vr23, vr24, vr25, vr26, vr27, vr28, vr29, vr30, vr31, vr32, vr33, vr34, opS, fpS, okP, pack, nAl, allocA, shId, leaves, fillA, fillR, splice, Nat.reduceLT, Nat.reduceEqDiff, Nat.reduceLeDiff, Nat.reduceAdd, Nat.reduceSub, Nat.reduceMul, Int.reduceBEq, Int.reduceBNe, Int.reduceLT, Int.reduceLE, Int.reduceEq, reduceIte, reduceCtorEq, da, int, boolA, RetP_go, resT, resC, resN, retV1, retV2, retV3, retV0, frzFZ, takeM, Option.some.injEq, g1, g2, e, atK gi, cK gi, k3, p3, w1, w3, hr]
    try rfl
theorem k104 {g : Int} {n : NodeM} (hn : okN n) {k : Nat} (hk : k < (roomsM g n).length) {K : Heap} {L : List Blk} {Q : AV → Heap → Prop} : KW ft (.fn (.func 104) [] []) [int g, .agg (nodeC n), int k] (hx K L) Q ↔ Q (int (roomsM g n)[k]) (hx K L) := KW_of (s104 g n hn k hk _)
end Go.VI

set_option linter.unusedVariables false
set_option linter.unusedSimpArgs false
set_option maxRecDepth 100000
namespace Go.VI
attribute [local congr] AW_congr OW_congr DW_congr NW_congr VW_congr GW_congr PW_congr KW_congr ite_congr' GV_congr CV_congr dx_congr dOW_congr dop_congr CP_congr AQ_congr AZ_congr callD_congr NQ_congr
/-- The table by which node.With is reckoned. -/
noncomputable def ftW : FT
  | 76 => some (.pprim (goP ft 76))
  | 101 => some (.dprim (cloD 4 64))
  | 102 => some (.prim (insP 4 64))
  | _ => none
def withI (l : List ItemM) (it : ItemM) : List ItemM := if bsIs l it.key then l.set (bsM l it.key) it else l.take (bsM l it.key) ++ it :: l.drop (bsM l it.key)
def withM (n : NodeM) (it : ItemM) : NodeM := ⟨n.leaf, withI n.items it, n.kids⟩
theorem kW_find {n : NodeM} {key : Bytes} (hn : okN n) (hl2 : n.items.length < 4000000000000000000) (hk : okB key) {K : Heap} {L : List Blk} {Q : AV → Heap → Prop} :
    KW ftW (.fn (.func 76) [] []) [.agg (nodeC n), encB key] (hx K L) Q ↔ Q (.tup [int (bsM n.items key), boolA (bsIs n.items key)]) (hx K L) := by
  refine KW_of (call_pprim (as' := [.agg (nodeC n), encB key]) (p := goP ft 76) rfl rfl ?_)
  unfold goP
  have hc : closedL [.agg (nodeC n), encB key] = true := rfl
  rw [if_pos hc, s76 n key hn hl2 hk]
  rfl
theorem dW_find : ∀ F C, calleeD ftW (.fn (.func 76) F C) = none := fun _ _ => calleeD_det rfl
theorem dW_ins : ∀ F C, calleeD ftW (.fn (.func 102) F C) = none := fun _ _ => calleeD_det rfl
theorem dW_clo : ∀ F C, calleeD ftW (.fn (.func 101) F C) = some (cloD 4 64, F, C) := fun _ _ => calleeD_d rfl
theorem hxe_get' (L : List Blk) (i : Nat) : (hx Heap.empty L).get i = L[i]? := by simp [hx, Heap.get, Heap.empty]
theorem hxe_nx (L : List Blk) : (hx Heap.empty L).next = L.length := by simp [hx, Heap.next, Heap.empty]
theorem ins_nil_eval {L : List Blk} {j : Nat} {r : List AV} (hj : L[j]? = some (.row false 4 [r])) (hr : r.length = 4) :
    insP 4 64 [.sc (.slice none 0 0), .sc (.int .i64 ((0 : Nat) : Int)), .sl j 0 1] (hx Heap.empty L) = some (.sl L.length 0 1, hx Heap.empty (L ++ [.row false 4 [r]])) := by
  have hl : j < L.length := by
    have := List.getElem?_eq_some_iff.1 hj
    exact this.1
  have hne : j ≠ L.length := by omega
  have hv : vRows (hx Heap.empty L) (hx Heap.empty L).next (.sl j 0 1) = some [r] := by
    rw [hxe_nx]
    simp only [vRows, rowU, rowsOf, hxe_get', hj]
    simp [hne]
  unfold insP cutP
  simp only [hv, Option.bind_some]
  rw [if_pos ⟨rfl, rfl, trivial, by simp [allSz, hr], by simp⟩, if_neg (by simp), hxe_nx, hxe_put, if_neg (by omega)]
  rfl
theorem ins_sl_eval {L : List Blk} {id j i len : Nat} {rows : List (List AV)} {r : List AV} (hi : L[id]? = some (.row false 4 rows)) (hlen : len = rows.length) (hj : L[j]? = some (.row false 4 [r])) (hne : j ≠ id) (hk : i ≤ len) (hb : len ≤ 1001) (hr : r.length = 4) :
    insP 4 64 [.sl id 0 len, .sc (.int .i64 (i : Int)), .sl j 0 1] (hx Heap.empty L) = some (.sl L.length 0 (len + 1), hx Heap.empty (L.set id .dead ++ [.row false 4 (rows.take i ++ r :: rows.drop i)])) := by
  have hv : vRows (hx Heap.empty L) id (.sl j 0 1) = some [r] := by
    simp only [vRows, rowU, rowsOf, hxe_get', hj]
    simp [hne]
  subst hlen
  unfold insP cutP
  simp only [hxe_get', hi, hv, Option.bind_some]
  rw [if_pos ⟨trivial, by decide, Nat.le_refl _, by omega, Int.le_refl _, by omega, by simp [allSz, hr], by simp; omega⟩]
  simp only [hxe_nx, List.take_length, Int.toNat_natCast, Nat.add_zero, List.replicate_zero, hx_nil]
  have e : (rows.take i ++ [r] ++ rows.drop i) = rows.take i ++ r :: rows.drop i := by simp
  rw [e]
  refine congrArg some (Prod.ext ?_ ?_)
  · simp only [List.length_append, List.length_cons, List.length_take, List.length_drop, AV.sl.injEq, true_and]
    omega
  · simp only [hxe_set]
    rw [hxe_put, if_neg (by simp)]
theorem kW_ins {args : List AV} {H H' : Heap} {r : AV} (h : insP 4 64 args H = some (r, H')) (hle : H.next ≤ H'.next) {Q : AV → Heap → Prop} : KW ftW (.fn (.func 102) [] []) args H Q ↔ Q r H' := k_prim rfl h hle
theorem dCall_ret {ft : FT} {κ : Caps} {n : Nat} {rs : List ARes} {body : ACode} {args : List AV} {R : AV} (hl : args.length ≤ n) (h : dx ft κ body (mkE n (ofL args)) (hx Heap.empty []) (RetP rs R)) : dCall ft κ n rs body args Heap.empty (FrzTo R) := by
  unfold dCall
  rw [enterE_mkE _ _ hl, ← hx_nil Heap.empty]
  have e : (fun (x : AExit) e Hc => leaves x = true ∧ ∃ r, resultsA Hc e rs = some r ∧ FrzTo R r Hc) = RetP rs R := by
    funext x e Hc
    apply propext
    constructor
    · rintro ⟨h1, r, h2, H3, h3⟩
      exact ⟨h1, r, H3, h2, h3⟩
    · rintro ⟨h1, r, H3, h2, h3⟩
      exact ⟨h1, r, h2, H3, h3⟩
  rw [e]
  exact h
section
variable {ft : FT} {κ : Caps} {nid : Nat} {e : Env} {H : Heap} {K : AV → Heap → Prop}
theorem xd_build (z : List AV) (ps : List (Nat × Nat × Operand)) : dop ft κ nid e H (.build z ps) K ↔ VW ft nid e H (.build z ps) K := Iff.rfl
theorem xd_iaddr (n : Option Nat) (sz : Nat) (x y : Operand) : dop ft κ nid e H (.iaddr n sz x y) K ↔ VW ft nid e H (.iaddr n sz x y) K := Iff.rfl
end
theorem bsG_le (l : List ItemM) (key : Bytes) : ∀ (n i j : Nat), i ≤ j → bsG l key n i j ≤ j
  | 0, i, j, h => h
  | n + 1, i, j, h => by
    unfold bsG
    split
    · split
      · exact bsG_le l key n _ j (by omega)
      · exact Nat.le_trans (bsG_le l key n i _ (by omega)) (by omega)
    · exact h
theorem bsM_le (l : List ItemM) (key : Bytes) : bsM l key ≤ l.length := bsG_le _ _ _ _ _ (Nat.zero_le _)
theorem bsIs_lt {l : List ItemM} {key : Bytes} (h : bsIs l key = true) : bsM l key < l.length := by
  unfold bsIs at h
  split at h
  · rename_i x hx
    exact (List.getElem?_eq_some_iff.1 hx).1
  · cases h
theorem ia_sl {L : List Blk} {id off len sz i : Nat} {fz : Bool} {rs : List (List AV)} (hL : L[id]? = some (.row fz sz rs)) (hi : i < len) : iaddrA (hx Heap.empty L) none sz (.sl id off len) (i : Int) = some (.ptr id (off + i) 0) := by
  have hr : rowSz (hx Heap.empty L) id = some sz := by unfold rowSz; rw [hxe_get', hL]
  show (if 0 ≤ (i : Int) ∧ (i : Int) < (len : Int) ∧ rowSz (hx Heap.empty L) id = some sz then some (AV.ptr id (off + (i : Int).toNat) 0) else none) = _
  rw [if_pos ⟨by omega, by omega, hr⟩]
  rfl
theorem hx_hx (K : Heap) (L M : List Blk) : hx (hx K L) M = hx K (L ++ M) := by simp [hx]
theorem cloD_I {l : List ItemM} (h0 : l ≠ []) (hb : l.length ≤ 1000) {L : List Blk} {K : AV → Heap → Prop} (hK : K (.sl (L.length + 1) 0 l.length) (hx Heap.empty (L ++ [.dead, .row false 4 (l.map itemC)]))) : cloD 4 64 [encI l] (hx Heap.empty L) K := by
  cases l with
  | nil => exact absurd rfl h0
  | cons x xs =>
    refine ⟨(x :: xs).map itemC, rfl, by simp, by simp only [List.length_map]; omega, ?_, ?_⟩
    · simp [allSz, itemC]
    · rw [hxe_nx, hx_hx, List.length_map]
      exact hK
theorem with_walk (n : NodeM) (it : ItemM) (hn : okN n) (hs : n.items.length ≤ 1000) (hit : okIt it) : dCall ftW (fun _ => none) 34 r31 c31 [.agg (nodeC n), .agg (itemC it)] Heap.empty (FrzTo (.agg (nodeC (withM n it)))) := by
  refine dCall_ret (by simp) ?_
  unfold c31 r31
  have kf := fun K L Q => @kW_find n it.key hn (by omega) hit.k K L Q
  simp only [vx, ↓vp, vq0, vq1, vq2, vq3, vr0, vr1, vr2, vr3, vr4, vr5, vr6, vr7, vr8, vr9, vr10, vr11, vr12, vr13, vr14, vr15, vr16, vr17, vr18, vr19, vr20, vr21, vr22, vr23, vr24, vr25, vr26, vr27, vr28, vr29, vr30, vr31, vr32, vr33, vr34, opS, fpS, okP, pack, nAl, allocA, shId, leaves, fillA, fillR, splice, Nat.reduceLT, Nat.reduceEqDiff, Nat.reduceLeDiff, Nat.reduceAdd, Nat.reduceSub, Nat.reduceMul, Int.reduceBEq, Int.reduceBNe, Int.reduceLT, Int.reduceLE, Int.reduceEq, reduceIte, reduceCtorEq, da, int, boolA, kf, dW_find, dW_ins, dW_clo, i_0]
  cases hl : n.items with
  | nil =>
    have e1 : bsM [] it.key = 0 := rfl
    have e2 : bsIs [] it.key = false := rfl
    have e3 : nodeC (withM n it) = [.sc (.bool n.leaf), .lst [itemC it], encK n.kids] := by
      unfold withM withI
      rw [hl, e1, e2]
      rfl
    rw [e1, e2, e3]
    refine And.intro ?_ ?_
    · simp only [vx, ↓vp, vq0, vq1, vq2, vq3, vr0, vr1, vr2, vr3, vr4, vr5, vr6, vr7, vr8, vr9, vr10, vr11, vr12, vr13, vr14, vr15, vr16, vr17, vr18, vr19, vr20, vr21, vr22, vr23, vr24, vr25, vr26, vr27, vr28, vr29, vr30, vr31, vr32, vr33, vr34, opS, fpS, okP, pack, nAl, allocA, shId, leaves, fillA, fillR, splice, Nat.reduceLT, Nat.reduceEqDiff, Nat.reduceLeDiff, Nat.reduceAdd, Nat.reduceSub, Nat.reduceMul, Int.reduceBEq, Int.reduceBNe, Int.reduceLT, Int.reduceLE, Int.reduceEq, reduceIte, reduceCtorEq, da, int, boolA, dW_find, dW_ins, dW_clo, i_0]
      refine (kW_ins (ins_nil_eval (r := itemC it) rfl rfl) (by simp only [hxe_nx]; simp)).2 ?_
      simp only [vx, ↓vp, vq0, vq1, vq2, vq3, vr0, vr1, vr2, vr3, vr4, vr5, vr6, vr7, vr8, vr9, vr10, vr11, vr12, vr13, vr14, vr15, vr16, vr17, vr18, vr19, vr20, vr21, vr22, vr23, vr24, vr25, vr26, vr27, vr28, vr29, vr30, vr31, vr32, vr33, vr34, opS, fpS, okP, pack, nAl, allocA, shId, leaves, fillA, fillR, splice, Nat.reduceLT, Nat.reduceEqDiff, Nat.reduceLeDiff, Nat.reduceAdd, Nat.reduceSub, Nat.reduceMul, Int.reduceBEq, Int.reduceBNe, Int.reduceLT, Int.reduceLE, Int.reduceEq, reduceIte, reduceCtorEq, da, int, boolA, RetP_go, resT, resC, resN, retV1, retV2, retV3, retV0, frzFZ, takeM, Option.some.injEq, xd_build, xd_iaddr, nodeC]
    · simp only [vx, ↓vp, vq0, vq1, vq2, vq3, vr0, vr1, vr2, vr3, vr4, vr5, vr6, vr7, vr8, vr9, vr10, vr11, vr12, vr13, vr14, vr15, vr16, vr17, vr18, vr19, vr20, vr21, vr22, vr23, vr24, vr25, vr26, vr27, vr28, vr29, vr30, vr31, vr32, vr33, vr34, opS, fpS, okP, pack, nAl, allocA, shId, leaves, fillA, fillR, splice, Nat.reduceLT, Nat.reduceEqDiff, Nat.reduceLeDiff, Nat.reduceAdd, Nat.reduceSub, Nat.reduceMul, Int.reduceBEq, Int.reduceBNe, Int.reduceLT, Int.reduceLE, Int.reduceEq, reduceIte, reduceCtorEq, da, int, boolA, dW_find, dW_ins, dW_clo, i_0]
      refine (kW_ins (ins_sl_eval (i := 0) (rows := []) (r := itemC it) rfl rfl rfl (by decide) (Nat.le_refl _) (by decide) rfl) (by simp only [hxe_nx]; simp)).2 ?_
      simp only [vx, ↓vp, vq0, vq1, vq2, vq3, vr0, vr1, vr2, vr3, vr4, vr5, vr6, vr7, vr8, vr9, vr10, vr11, vr12, vr13, vr14, vr15, vr16, vr17, vr18, vr19, vr20, vr21, vr22, vr23, vr24, vr25, vr26, vr27, vr28, vr29, vr30, vr31, vr32, vr33, vr34, opS, fpS, okP, pack, nAl, allocA, shId, leaves, fillA, fillR, splice, Nat.reduceLT, Nat.reduceEqDiff, Nat.reduceLeDiff, Nat.reduceAdd, Nat.reduceSub, Nat.reduceMul, Int.reduceBEq, Int.reduceBNe, Int.reduceLT, Int.reduceLE, Int.reduceEq, reduceIte, reduceCtorEq, da, int, boolA, RetP_go, resT, resC, resN, retV1, retV2, retV3, retV0, frzFZ, takeM, Option.some.injEq, xd_build, xd_iaddr, nodeC]
      try rfl
  | cons x xs =>
    rw [← hl]
    refine cloD_I (by rw [hl]; simp) hs ?_
    have e3 : nodeC (withM n it) = [.sc (.bool n.leaf), .lst ((withI n.items it).map itemC), encK n.kids] := rfl
    rw [e3]
    unfold withI
    cases e2 : bsIs n.items it.key with
    | false =>
      simp only [vx, ↓vp, vq0, vq1, vq2, vq3, vr0, vr1, vr2, vr3, vr4, vr5, vr6, vr7, vr8, vr9, vr10, vr11, vr12, vr13, vr14, vr15, vr16, vr17, vr18, vr19, vr20, vr21, vr22, vr23, vr24, vr25, vr26, vr27, vr28, vr29, vr30, vr31, vr32, vr33, vr34, opS, fpS, okP, pack, nAl, allocA, shId, leaves, fillA, fillR, splice, Nat.reduceLT, Nat.reduceEqDiff, Nat.reduceLeDiff, Nat.reduceAdd, Nat.reduceSub, Nat.reduceMul, Int.reduceBEq, Int.reduceBNe, Int.reduceLT, Int.reduceLE, Int.reduceEq, reduceIte, reduceCtorEq, da, int, boolA, dW_find, dW_ins, dW_clo, i_0]
      refine (kW_ins (ins_sl_eval (i := bsM n.items it.key) (rows := n.items.map itemC) (r := itemC it) rfl (by simp) rfl (by decide) (bsM_le _ _) (by omega) rfl) (by simp only [hxe_nx]; simp)).2 ?_
      have e4 : (n.items.map itemC).take (bsM n.items it.key) ++ itemC it :: (n.items.map itemC).drop (bsM n.items it.key) = (n.items.take (bsM n.items it.key) ++ it :: n.items.drop (bsM n.items it.key)).map itemC := by simp [List.map_take, List.map_drop]
      rw [e4]
      have hlen : (n.items.take (bsM n.items it.key) ++ it :: n.items.drop (bsM n.items it.key)).length = n.items.length + 1 := by
        have := bsM_le n.items it.key
        simp; omega
      rw [← hlen]
      simp only [vx, ↓vp, vq0, vq1, vq2, vq3, vr0, vr1, vr2, vr3, vr4, vr5, vr6, vr7, vr8, vr9, vr10, vr11, vr12, vr13, vr14, vr15, vr16, vr17, vr18, vr19, vr20, vr21, vr22, vr23, vr24, vr25, vr26, vr27, vr28, vr29, vr30, vr31, vr32, vr33, vr34, opS, fpS, okP, pack, nAl, allocA, shId, leaves, fillA, fillR, splice, Nat.reduceLT, Nat.reduceEqDiff, Nat.reduceLeDiff, Nat.reduceAdd, Nat.reduceSub, Nat.reduceMul, Int.reduceBEq, Int.reduceBNe, Int.reduceLT, Int.reduceLE, Int.reduceEq, reduceIte, reduceCtorEq, da, int, boolA, RetP_go, resT, resC, resN, retV1, retV2, retV3, retV0, frzFZ, takeM, Option.some.injEq, xd_build, xd_iaddr, nodeC]
    | true =>
      have hlt := bsIs_lt e2
      have g1 : (n.items.map itemC)[bsM n.items it.key]? = some (itemC n.items[bsM n.items it.key]) := by simp [hlt]
      have g2 : ∀ y : ItemM, itemC it ++ (itemC y).drop 4 = itemC it := fun _ => rfl
      have g3 : (n.items.map itemC).set (bsM n.items it.key) (itemC it) = (n.items.set (bsM n.items it.key) it).map itemC := by rw [List.map_set]
      have g4 : n.items.length = (n.items.set (bsM n.items it.key) it).length := by simp
      simp only [vx, ↓vp, vq0, vq1, vq2, vq3, vr0, vr1, vr2, vr3, vr4, vr5, vr6, vr7, vr8, vr9, vr10, vr11, vr12, vr13, vr14, vr15, vr16, vr17, vr18, vr19, vr20, vr21, vr22, vr23, vr24, vr25, vr26, vr27, vr28, vr29, vr30, vr31, vr32, vr33, vr34, opS, fpS, okP, pack, nAl, allocA, shId, leaves, fillA, fillR, splice, Nat.reduceLT, Nat.reduceEqDiff, Nat.reduceLeDiff, Nat.reduceAdd, Nat.reduceSub, Nat.reduceMul, Int.reduceBEq, Int.reduceBNe, Int.reduceLT, Int.reduceLE, Int.reduceEq, reduceIte, reduceCtorEq, da, int, boolA, dW_find, dW_ins, dW_clo, i_0, xd_iaddr]
      rw [ia_sl rfl hlt]
      simp only [vx, ↓vp, vq0, vq1, vq2, vq3, vr0, vr1, vr2, vr3, vr4, vr5, vr6, vr7, vr8, vr9, vr10, vr11, vr12, vr13, vr14, vr15, vr16, vr17, vr18, vr19, vr20, vr21, vr22, vr23, vr24, vr25, vr26, vr27, vr28, vr29, vr30, vr31, vr32, vr33, vr34, opS, fpS, okP, pack, nAl, allocA, shId, leaves, fillA, fillR, splice, Nat.reduceLT, Nat.reduceEqDiff, Nat.reduceLeDiff, Nat.reduceAdd, Nat.reduceSub, Nat.reduceMul, Int.reduceBEq, Int.reduceBNe, Int.reduceLT, Int.reduceLE, Int.reduceEq, reduceIte, reduceCtorEq, da, int, boolA, xd_iaddr, nodeC, g1, g2, g3]
      rw [g4]
      simp only [vx, ↓vp, vq0, vq1, vq2, vq3, vr0, vr1, vr2, vr3, vr4, vr5, vr6, vr7, vr8, vr9, vr10, vr11, vr12, vr13, vr14, vr15, vr16, vr17, vr18, vr19, vr20, vr21, vr22, vr23, vr24, vr25, vr26, vr27, vr28, vr29, vr30, vr31, vr32, vr33, vr34, opS, fpS, okP, pack, nAl, allocA, shId, leaves, fillA, fillR, splice, Nat.reduceLT, Nat.reduceEqDiff, Nat.reduceLeDiff, Nat.reduceAdd, Nat.reduceSub, Nat.reduceMul, Int.reduceBEq, Int.reduceBNe, Int.reduceLT, Int.reduceLE, Int.reduceEq, reduceIte, reduceCtorEq, da, int, boolA, RetP_go, resT, resC, resN, retV1, retV2, retV3, retV0, frzFZ, takeM, Option.some.injEq, xd_build, xd_iaddr]
open Classical in
noncomputable def relP (R : List AV → AV → Prop) (args : List AV) : Option AV := if h : ∃ r, R args r then some (Classical.choose h) else none
theorem relP_some {R : List AV → AV → Prop} {args : List AV} {r : AV} (h : relP R args = some r) : R args r := by
  unfold relP at h
  split at h
  · rename_i hx
    cases h
    exact Classical.choose_spec hx
  · cases h
theorem relP_of {R : List AV → AV → Prop} {args : List AV} {r : AV} (h : R args r) (hf : ∀ r', R args r' → r' = r) : relP R args = some r := by
  unfold relP
  have hx : ∃ r, R args r := ⟨r, h⟩
  rw [dif_pos hx, hf _ (Classical.choose_spec hx)]
theorem encB_inj {a b : Bytes} (h : encB a = encB b) : a = b := by
  unfold encB at h
  injection h with h
  exact List.map_inj_right (fun x y hxy => by unfold byteC at hxy; simpa using hxy) |>.1 h
theorem int_inj {a b : Int} (h : int a = int b) : a = b := by unfold int at h; simpa using h
theorem boolA_inj {a b : Bool} (h : boolA a = boolA b) : a = b := by unfold boolA at h; simpa using h
theorem itemC_inj {x y : ItemM} (h : itemC x = itemC y) : x = y := by
  unfold itemC at h
  simp only [List.cons.injEq, and_true] at h
  obtain ⟨h1, h2, h3, h4⟩ := h
  cases x
  cases y
  simp only [ItemM.mk.injEq]
  exact ⟨encB_inj h1, encB_inj h2, int_inj h3, int_inj h4⟩
theorem kidC_inj {x y : KidM} (h : kidC x = kidC y) : x = y := by
  unfold kidC at h
  simp only [List.cons.injEq, and_true] at h
  obtain ⟨h1, h2⟩ := h
  cases x
  cases y
  simp only [KidM.mk.injEq]
  exact ⟨encB_inj h1, int_inj h2⟩
theorem nodeC_inj {x y : NodeM} (h : nodeC x = nodeC y) : x = y := by
  unfold nodeC encI encK at h
  simp only [List.cons.injEq, and_true, AV.lst.injEq] at h
  obtain ⟨h1, h2, h3⟩ := h
  cases x
  cases y
  simp only [NodeM.mk.injEq]
  exact ⟨boolA_inj h1, (List.map_inj_right (fun _ _ => itemC_inj)).1 h2, (List.map_inj_right (fun _ _ => kidC_inj)).1 h3⟩
def WithR (args : List AV) (r : AV) : Prop := ∃ n it, okN n ∧ n.items.length ≤ 1000 ∧ okIt it ∧ args = [.agg (nodeC n), .agg (itemC it)] ∧ r = .agg (nodeC (withM n it))
noncomputable def withP : List AV → Option AV := relP WithR
theorem withP_eq {n : NodeM} {it : ItemM} (hn : okN n) (hs : n.items.length ≤ 1000) (hit : okIt it) : withP [.agg (nodeC n), .agg (itemC it)] = some (.agg (nodeC (withM n it))) :=
  relP_of ⟨n, it, hn, hs, hit, rfl, rfl⟩ fun r' ⟨n', it', _, _, _, h, h2⟩ => by
    simp only [List.cons.injEq, and_true, AV.agg.injEq] at h
    rw [h2, nodeC_inj h.1, itemC_inj h.2]
theorem withP_sl : SlD ftW 34 r31 c31 withP := fun args r h => by
  obtain ⟨n, it, hn, hs, hit, rfl, rfl⟩ := relP_some h
  exact with_walk n it hn hs hit
end Go.VI

set_option linter.unusedVariables false
set_option linter.unusedSimpArgs false
set_option maxRecDepth 100000
namespace Go.VI
attribute [local congr] AW_congr OW_congr DW_congr NW_congr VW_congr GW_congr PW_congr KW_congr ite_congr' GV_congr CV_congr
def atG (tot : Int) : Int → Nat → List Int → Nat
  | _, k, [] => k
  | s, k, x :: r => if tot ≤ 2 * (s + x) then k + 1 else atG tot (s + x) (k + 1) r
/-- Where a node is cut. -/
def atM (g : Int) (n : NodeM) : Nat := atG (roomM g n) 0 0 ((roomsM g n).take ((roomsM g n).length - 1))
theorem l85 (g : Int) (n : NodeM) (hn : okN n) (h1 : n.items.length ≤ 1000) (h2 : n.kids.length ≤ 1000) (l : List Int) (hl : l = (roomsM g n).take ((roomsM g n).length - 1)) {Q : AExit → Env → Heap → Prop}
   (hex : ∀ f', atM g n = l.length → f' 5 = encZ (roomsM g n) → Q (.exit 0) (mkE 38 f') (hx Heap.empty [.box false (nodeC n)]))
   (hret : ∀ f', f' 4 = int (atM g n) → Q .ret (mkE 38 f') (hx Heap.empty [.box false (nodeC n)])) :
   ∀ (d i : Nat) (f : Nat → AV), i + d = l.length → atM g n = atG (roomM g n) (sumZ (l.take i)) i (l.drop i) → f 1 = int g → f 2 = .ptr 0 0 0 → f 5 = encZ (roomsM g n) → f 6 = int (sumZ (l.take i)) → f 16 = encZ l → f 17 = int l.length → f 18 = int i →
    AW ft (.loop c85L0) (mkE 38 f) (hx Heap.empty [.box false (nodeC n)]) Q := by
  intro d
  have hlen : l.length ≤ 1000 := by
    have := rooms_len g h1 h2
    rw [hl]; simp; omega
  have hsm : small l := by rw [hl]; exact (rooms_small g hn).take _
  have kk := fun K L Q => @k80 g n hn h1 h2 K L Q
  simp only [int] at kk
  induction d with
  | zero =>
    intro i f hd hc q1 q2 q5 q6 q16 q17 q18
    have g1 : ((i : Int) < l.length) = False := by simp; omega
    rw [AW_loop]
    unfold c85L0
    rw [List.drop_eq_nil_of_le (by omega)] at hc
    simp only [↓vp, vq0, vq1, vq2, vq3, vr0, vr1, vr2, vr3, vr4, vr5, vr6, vr7, vr8, vr9, vr10, vr11, vr12, vr13, vr14, vr15, vr16, vr17, vr18, vr19, vr20, vr21, vr22, vr23, vr24, vr25, vr26, vr27, vr28, vr29, vr30, vr31, vr32, vr33, vr34, opS, fpS, okP, pack, nAl, allocA, shId, leaves, fillA, fillR, splice, Nat.reduceLT, Nat.reduceEqDiff, Nat.reduceLeDiff, Nat.reduceAdd, Nat.reduceSub, Nat.reduceMul, Int.reduceBEq, Int.reduceBNe, Int.reduceLT, Int.reduceLE, Int.reduceEq, reduceIte, reduceCtorEq, da, int, boolA, q17, q18, g1]
    refine hex _ ?_ ?_
    · rw [hc]; unfold atG; omega
    · simp only [↓vp, vq0, vq1, vq2, vq3, vr0, vr1, vr2, vr3, vr4, vr5, vr6, vr7, vr8, vr9, vr10, vr11, vr12, vr13, vr14, vr15, vr16, vr17, vr18, vr19, vr20, vr21, vr22, vr23, vr24, vr25, vr26, vr27, vr28, vr29, vr30, vr31, vr32, vr33, vr34, opS, fpS, okP, pack, nAl, allocA, shId, leaves, fillA, fillR, splice, Nat.reduceLT, Nat.reduceEqDiff, Nat.reduceLeDiff, Nat.reduceAdd, Nat.reduceSub, Nat.reduceMul, Int.reduceBEq, Int.reduceBNe, Int.reduceLT, Int.reduceLE, Int.reduceEq, reduceIte, reduceCtorEq, da, int, boolA, q5]
  | succ d ih =>
    intro i f hd hc q1 q2 q5 q6 q16 q17 q18
    have g1 : ((i : Int) < l.length) = True := by simp; omega
    have gi : i < l.length := by omega
    have w1 := wrap_succ (show i < 9223372036854775807 by omega)
    have e1 : sumZ (l.take (i + 1)) = sumZ (l.take i) + l[i] := by
      rw [List.take_succ_eq_append_getElem gi, sumZ_app]
      simp [sumZ]
    have b1 := sumZ_small (hsm.take (i + 1))
    have b2 : (l.take (i + 1)).length ≤ 1000 := by simp; omega
    have w2 : IntKind.i64.wrap (sumZ (l.take i) + l[i]) = sumZ (l.take (i + 1)) := by rw [← e1, wrap_i64 (by omega)]
    have w3 : IntKind.i64.wrap (2 * sumZ (l.take (i + 1))) = 2 * sumZ (l.take (i + 1)) := by rw [wrap_i64 (by omega)]
    rw [AW_loop]
    unfold c85L0
    rw [List.drop_eq_getElem_cons gi, atG, ← e1] at hc
    by_cases c1 : roomM g n ≤ 2 * sumZ (l.take (i + 1))
    · rw [if_pos c1] at hc
      simp only [↓vp, vq0, vq1, vq2, vq3, vr0, vr1, vr2, vr3, vr4, vr5, vr6, vr7, vr8, vr9, vr10, vr11, vr12, vr13, vr14, vr15, vr16, vr17, vr18, vr19, vr20, vr21, vr22, vr23, vr24, vr25, vr26, vr27, vr28, vr29, vr30, vr31, vr32, vr33, vr34, opS, fpS, okP, pack, nAl, allocA, shId, leaves, fillA, fillR, splice, Nat.reduceLT, Nat.reduceEqDiff, Nat.reduceLeDiff, Nat.reduceAdd, Nat.reduceSub, Nat.reduceMul, Int.reduceBEq, Int.reduceBNe, Int.reduceLT, Int.reduceLE, Int.reduceEq, reduceIte, reduceCtorEq, da, int, boolA, q1, q2, q5, q6, q16, q17, q18, g1, atZ gi, cZ gi, intC, kk, w1, w2, w3, c1, ge_iff_le]
      refine hret _ ?_
      simp only [↓vp, vq0, vq1, vq2, vq3, vr0, vr1, vr2, vr3, vr4, vr5, vr6, vr7, vr8, vr9, vr10, vr11, vr12, vr13, vr14, vr15, vr16, vr17, vr18, vr19, vr20, vr21, vr22, vr23, vr24, vr25, vr26, vr27, vr28, vr29, vr30, vr31, vr32, vr33, vr34, opS, fpS, okP, pack, nAl, allocA, shId, leaves, fillA, fillR, splice, Nat.reduceLT, Nat.reduceEqDiff, Nat.reduceLeDiff, Nat.reduceAdd, Nat.reduceSub, Nat.reduceMul, Int.reduceBEq, Int.reduceBNe, Int.reduceLT, Int.reduceLE, Int.reduceEq, reduceIte, reduceCtorEq, da, int, boolA, hc]
    · rw [if_neg c1] at hc
      simp only [↓vp, vq0, vq1, vq2, vq3, vr0, vr1, vr2, vr3, vr4, vr5, vr6, vr7, vr8, vr9, vr10, vr11, vr12, vr13, vr14, vr15, vr16, vr17, vr18, vr19, vr20, vr21, vr22, vr23, vr24, vr25, vr26, vr27, vr28, vr29, vr30, vr31, vr32, vr33, vr34, opS, fpS, okP, pack, nAl, allocA, shId, leaves, fillA, fillR, splice, Nat.reduceLT, Nat.reduceEqDiff, Nat.reduceLeDiff, Nat.reduceAdd, Nat.reduceSub, Nat.reduceMul, Int.reduceBEq, Int.reduceBNe, Int.reduceLT, Int.reduceLE, Int.reduceEq, reduceIte, reduceCtorEq, da, int, boolA, q1, q2, q5, q6, q16, q17, q18, g1, atZ gi, cZ gi, intC, kk, w1, w2, w3, c1, ge_iff_le]
      refine ih (i + 1) _ (by omega) hc ?_ ?_ ?_ ?_ ?_ ?_ ?_ <;> simp only [↓vp, vq0, vq1, vq2, vq3, vr0, vr1, vr2, vr3, vr4, vr5, vr6, vr7, vr8, vr9, vr10, vr11, vr12, vr13, vr14, vr15, vr16, vr17, vr18, vr19, vr20, vr21, vr22, vr23, vr24, vr25, vr26, vr27, vr28, vr29, vr30, vr31, vr32, vr33, vr34, opS, fpS, okP, pack, nAl, allocA, shId, leaves, fillA, fillR, splice, Nat.reduceLT, Nat.reduceEqDiff, Nat.reduceLeDiff, Nat.reduceAdd, Nat.reduceSub, Nat.reduceMul, Int.reduceBEq, Int.reduceBNe, Int.reduceLT, Int.reduceLE, Int.reduceEq, reduceIte, reduceCtorEq, da, int, boolA, q1, q2, q5, q16, q17]
theorem slice_to {H : Heap} {sz : Nat} {rows : List (List AV)} {j : Nat} (hj : j ≤ rows.length) : sliceA H sz (.lst rows) none (some (j : Int)) none = some (.lst (rows.take j)) := by
  unfold sliceA boundsA
  simp [hj]
theorem slice_to3 {H : Heap} {sz : Nat} {rows : List (List AV)} {j : Nat} (hj : j ≤ rows.length) : sliceA H sz (.lst rows) none (some (j : Int)) (some (j : Int)) = some (.lst (rows.take j)) := by
  unfold sliceA boundsA
  simp [hj]
theorem slice_from {H : Heap} {sz : Nat} {rows : List (List AV)} {i : Nat} (ha : allSz sz rows = true) (hi : i ≤ rows.length) : sliceA H sz (.lst rows) (some (i : Int)) none none = some (.lst (rows.drop i)) := by
  unfold sliceA boundsA
  simp [ha, hi]
  rw [← List.length_drop, List.take_length]
theorem s85 (g : Int) (n : NodeM) (hn : okN n) (h1 : n.items.length ≤ 1000) (h2 : n.kids.length ≤ 1000) (h3 : 1 ≤ (roomsM g n).length) (H : Heap) : callL ft (.fn (.func 85) [] []) [.agg (nodeC n), int g] H = some (int (atM g n), H) := by
  refine call_p (as' := [.agg (nodeC n), int g]) rfl rfl (by simp) ?_
  unfold c85 r85
  have kk := fun K L Q => @k83 g n hn h1 h2 K L Q
  have hlen := rooms_len g h1 h2
  have w1 : IntKind.i64.wrap (((roomsM g n).length : Int) - 1) = (((roomsM g n).length - 1 : Nat) : Int) := by rw [wrap_i64 (by omega)]; omega
  have hs : ∀ H, sliceA H 1 (encZ (roomsM g n)) none (some (((roomsM g n).length - 1 : Nat) : Int)) none = some (encZ ((roomsM g n).take ((roomsM g n).length - 1))) := fun H => by
    unfold encZ
    rw [slice_to (by simp), List.map_take]
  simp only [int] at kk
  simp only [↓vp, vq0, vq1, vq2, vq3, vr0, vr1, vr2, vr3, vr4, vr5, vr6, vr7, vr8, vr9, vr10, vr11, vr12, vr13, vr14, vr15, vr16, vr17, vr18, vr19, vr20, vr21, vr22, vr23, vr24, vr25, vr26, vr27, vr28, vr29, vr30, vr31, vr32, vr33, vr34, opS, fpS, okP, pack, nAl, allocA, shId, leaves, fillA, fillR, splice, Nat.reduceLT, Nat.reduceEqDiff, Nat.reduceLeDiff, Nat.reduceAdd, Nat.reduceSub, Nat.reduceMul, Int.reduceBEq, Int.reduceBNe, Int.reduceLT, Int.reduceLE, Int.reduceEq, reduceIte, reduceCtorEq, da, int, boolA, kk, one_Z, cs_Z, lenZ, w1, hs, opI0, opI1]
  refine l85 g n hn h1 h2 _ rfl (fun f' hm q5 => ?_) (fun f' q4 => ?_) ((roomsM g n).take ((roomsM g n).length - 1)).length 0 _ (by simp) rfl ?_ ?_ ?_ ?_ ?_ ?_ ?_
  · unfold c85R1
    simp only [↓vp, vq0, vq1, vq2, vq3, vr0, vr1, vr2, vr3, vr4, vr5, vr6, vr7, vr8, vr9, vr10, vr11, vr12, vr13, vr14, vr15, vr16, vr17, vr18, vr19, vr20, vr21, vr22, vr23, vr24, vr25, vr26, vr27, vr28, vr29, vr30, vr31, vr32, vr33, vr34, opS, fpS, okP, pack, nAl, allocA, shId, leaves, fillA, fillR, splice, Nat.reduceLT, Nat.reduceEqDiff, Nat.reduceLeDiff, Nat.reduceAdd, Nat.reduceSub, Nat.reduceMul, Int.reduceBEq, Int.reduceBNe, Int.reduceLT, Int.reduceLE, Int.reduceEq, reduceIte, reduceCtorEq, da, int, boolA, RetP_go, resT, resC, resN, retV1, retV2, retV3, retV0, frzFZ, takeM, Option.some.injEq, q5, lenZ, w1]
    rw [hm]
    simp
  · simp only [↓vp, vq0, vq1, vq2, vq3, vr0, vr1, vr2, vr3, vr4, vr5, vr6, vr7, vr8, vr9, vr10, vr11, vr12, vr13, vr14, vr15, vr16, vr17, vr18, vr19, vr20, vr21, vr22, vr23, vr24, vr25, vr26, vr27, vr28, vr29, vr30, vr31, vr32, vr33, vr34, opS, fpS, okP, pack, nAl, allocA, shId, leaves, fillA, fillR, splice, Nat.reduceLT, Nat.reduceEqDiff, Nat.reduceLeDiff, Nat.reduceAdd, Nat.reduceSub, Nat.reduceMul, Int.reduceBEq, Int.reduceBNe, Int.reduceLT, Int.reduceLE, Int.reduceEq, reduceIte, reduceCtorEq, da, int, boolA, RetP_go, resT, resC, resN, retV1, retV2, retV3, retV0, frzFZ, takeM, Option.some.injEq, q4]
  all_goals first | rfl | (simp only [↓vp, vq0, vq1, vq2, vq3, vr0, vr1, vr2, vr3, vr4, vr5, vr6, vr7, vr8, vr9, vr10, vr11, vr12, vr13, vr14, vr15, vr16, vr17, vr18, vr19, vr20, vr21, vr22, vr23, vr24, vr25, vr26, vr27, vr28, vr29, vr30, vr31, vr32, vr33, vr34, opS, fpS, okP, pack, nAl, allocA, shId, leaves, fillA, fillR, splice, Nat.reduceLT, Nat.reduceEqDiff, Nat.reduceLeDiff, Nat.reduceAdd, Nat.reduceSub, Nat.reduceMul, Int.reduceBEq, Int.reduceBNe, Int.reduceLT, Int.reduceLE, Int.reduceEq, reduceIte, reduceCtorEq, da, int, boolA]; done)
theorem k85 {g : Int} {n : NodeM} (hn : okN n) (h1 : n.items.length ≤ 1000) (h2 : n.kids.length ≤ 1000) (h3 : 1 ≤ (roomsM g n).length) {K : Heap} {L : List Blk} {Q : AV → Heap → Prop} : KW ft (.fn (.func 85) [] []) [.agg (nodeC n), int g] (hx K L) Q ↔ Q (int (atM g n)) (hx K L) := KW_of (s85 g n hn h1 h2 h3 _)
end Go.VI

set_option linter.unusedVariables false
set_option linter.unusedSimpArgs false
set_option maxRecDepth 100000
namespace Go.VI
attribute [local congr] AW_congr OW_congr DW_congr NW_congr VW_congr GW_congr PW_congr KW_congr ite_congr' GV_congr CV_congr
def noKey : List KidM → List KidM
  | [] => []
  | x :: r => ⟨[], x.ref⟩ :: r
def cutM (n : NodeM) (k : Nat) : NodeM × NodeM × Bytes :=
  if n.leaf then (⟨true, n.items.take k, []⟩, ⟨true, n.items.drop k, []⟩, ((n.items[k]?).map (·.key)).getD [])
  else (⟨false, [], n.kids.take k⟩, ⟨false, [], noKey (n.kids.drop k)⟩, ((n.kids[k]?).map (·.key)).getD [])
theorem allI (l : List ItemM) : allSz 4 (l.map itemC) = true := by simp [allSz, itemC]
theorem allK (l : List KidM) : allSz 2 (l.map kidC) = true := by simp [allSz, kidC]
theorem kcloI {l : List ItemM} (h : l.length ≤ 1000) {K : Heap} {L : List Blk} {Q : AV → Heap → Prop} : KW ft (.fn (.func 101) [] []) [encI l] (hx K L) Q ↔ Q (encI l) (hx K L) := by
  refine KW_of (call_pprim (as' := [encI l]) (p := cloF 4 64) rfl rfl ?_)
  cases l with
  | nil => rfl
  | cons x xs =>
    have h1 : ((xs.map itemC).length + 1) * 64 ≤ 140737488355328 ∧ allSz 4 ((x :: xs).map itemC) = true := ⟨by simp at h ⊢; omega, allI _⟩
    show (if ((xs.map itemC).length + 1) * 64 ≤ 140737488355328 ∧ allSz 4 ((x :: xs).map itemC) = true then some (encI (x :: xs)) else none) = _
    rw [if_pos h1]
theorem ia_sl0 {L : List Blk} {id len sz : Nat} {fz : Bool} {rs : List (List AV)} (hL : L[id]? = some (.row fz sz rs)) (hi : 0 < len) : iaddrA (hx Heap.empty L) none sz (.sl id 0 len) 0 = some (.ptr id 0 0) := ia_sl (off := 0) (i := 0) hL hi
theorem kcloK {l : List KidM} (h0 : l ≠ []) (hb : l.length ≤ 1000) {L : List Blk} {Q : AV → Heap → Prop} : KW ft (.fn (.func 91) [] []) [encK l] (hx Heap.empty L) Q ↔ Q (.sl (L.length + 1) 0 l.length) (hx Heap.empty (L ++ [.dead, .row false 2 (l.map kidC)])) := by
  cases l with
  | nil => exact absurd rfl h0
  | cons x xs =>
    refine k_prim (p := cloP 2 32) rfl ?_ ?_
    · unfold cloP
      have hv : vRows (hx Heap.empty L) (hx Heap.empty L).next (encK (x :: xs)) = some ((x :: xs).map kidC) := rfl
      show ((vRows (hx Heap.empty L) (hx Heap.empty L).next (encK (x :: xs))).bind _) = _
      rw [hv, Option.bind_some, if_pos ⟨by simp, by simp only [List.length_map]; omega, allK _⟩, hxe_nx, hx_hx, List.length_map]
    · rw [hxe_nx, hxe_nx]
      simp
theorem s84 (n : NodeM) (hn : okN n) (h1 : n.items.length ≤ 1000) (h2 : n.kids.length ≤ 1000) (k : Nat) (hk : (k : Int) < manyN n) (H : Heap) : callL ft (.fn (.func 84) [] []) [.agg (nodeC n), int k] H = some (.tup [.agg (nodeC (cutM n k).1), .agg (nodeC (cutM n k).2.1), encB (cutM n k).2.2], H) := by
  refine call_p (as' := [.agg (nodeC n), int k]) rfl rfl (by simp) ?_
  unfold c84 r84
  unfold manyN at hk
  cases e : n.leaf with
  | true =>
    rw [e] at hk
    have gi : k < n.items.length := by simpa using hk
    have hs1 : ∀ H, sliceA H 4 (encI n.items) none (some (k : Int)) (some (k : Int)) = some (encI (n.items.take k)) := fun H => by
      unfold encI
      rw [slice_to3 (by simp; omega), List.map_take]
    have hs2 : ∀ H, sliceA H 4 (encI n.items) (some (k : Int)) none none = some (encI (n.items.drop k)) := fun H => by
      unfold encI
      rw [slice_from (allI _) (by simp; omega), List.map_drop]
    have kc := fun K L Q => @kcloI (n.items.drop k) (by simp; omega) K L Q
    have ec : cutM n k = (⟨true, n.items.take k, []⟩, ⟨true, n.items.drop k, []⟩, n.items[k].key) := by
      unfold cutM
      rw [e]
      simp [gi]
    rw [ec]
    have pc : pureV ft (.fn (.func 101) [] []) [encI (n.items.drop k)] = some (false, []) := rfl
    simp only [↓vp, vq0, vq1, vq2, vq3, vr0, vr1, vr2, vr3, vr4, vr5, vr6, vr7, vr8, vr9, vr10, vr11, vr12, vr13, vr14, vr15, vr16, vr17, vr18, vr19, vr20, vr21, vr22, vr23, vr24, vr25, vr26, vr27, vr28, vr29, vr30, vr31, vr32, vr33, vr34, opS, fpS, okP, pack, nAl, allocA, shId, leaves, fillA, fillR, splice, Nat.reduceLT, Nat.reduceEqDiff, Nat.reduceLeDiff, Nat.reduceAdd, Nat.reduceSub, Nat.reduceMul, Int.reduceBEq, Int.reduceBNe, Int.reduceLT, Int.reduceLE, Int.reduceEq, reduceIte, reduceCtorEq, da, int, boolA, RetP_go, resT, resC, resN, retV1, retV2, retV3, retV0, frzFZ, takeM, Option.some.injEq, e, hs1, hs2, kc, pc, atI gi, cI gi, opI0, opI1]
    exact ⟨rfl, rfl⟩
  | false =>
    rw [e] at hk
    have gi : k < n.kids.length := by simpa using hk
    have hs1 : ∀ H, sliceA H 2 (encK n.kids) none (some (k : Int)) (some (k : Int)) = some (encK (n.kids.take k)) := fun H => by
      unfold encK
      rw [slice_to3 (by simp; omega), List.map_take]
    have hs2 : ∀ H, sliceA H 2 (encK n.kids) (some (k : Int)) none none = some (encK (n.kids.drop k)) := fun H => by
      unfold encK
      rw [slice_from (allK _) (by simp; omega), List.map_drop]
    have ed : n.kids.drop k = n.kids[k] :: n.kids.drop (k + 1) := List.drop_eq_getElem_cons gi
    generalize hx0 : n.kids[k] = x at ed
    generalize hr0 : n.kids.drop (k + 1) = r at ed
    have hrl : r.length ≤ 1000 := by rw [← hr0]; simp; omega
    have ec : cutM n k = (⟨false, [], n.kids.take k⟩, ⟨false, [], ⟨[], x.ref⟩ :: r⟩, x.key) := by
      unfold cutM
      rw [e, ed]
      simp [gi, noKey, hx0]
    rw [ec]
    have hlen : (n.kids.drop k).length = r.length + 1 := by rw [ed]; rfl
    have hl1 : (x :: r).length ≤ 1000 := by rw [← ed]; simp; omega
    rw [ed] at hs2
    have kc := fun L Q => @kcloK (x :: r) (by simp) hl1 L Q
    simp only [↓vp, vq0, vq1, vq2, vq3, vr0, vr1, vr2, vr3, vr4, vr5, vr6, vr7, vr8, vr9, vr10, vr11, vr12, vr13, vr14, vr15, vr16, vr17, vr18, vr19, vr20, vr21, vr22, vr23, vr24, vr25, vr26, vr27, vr28, vr29, vr30, vr31, vr32, vr33, vr34, opS, fpS, okP, pack, nAl, allocA, shId, leaves, fillA, fillR, splice, Nat.reduceLT, Nat.reduceEqDiff, Nat.reduceLeDiff, Nat.reduceAdd, Nat.reduceSub, Nat.reduceMul, Int.reduceBEq, Int.reduceBNe, Int.reduceLT, Int.reduceLE, Int.reduceEq, reduceIte, reduceCtorEq, da, int, boolA, RetP_go, resT, resC, resN, retV1, retV2, retV3, retV0, frzFZ, takeM, Option.some.injEq, e, hs1, hs2, opI0, opI1]
    rw [kc]
    simp only [↓vp, vq0, vq1, vq2, vq3, vr0, vr1, vr2, vr3, vr4, vr5, vr6, vr7, vr8, vr9, vr10, vr11, vr12, vr13, vr14, vr15, vr16, vr17, vr18, vr19, vr20, vr21, vr22, vr23, vr24, vr25, vr26, vr27, vr28, vr29, vr30, vr31, vr32, vr33, vr34, opS, fpS, okP, pack, nAl, allocA, shId, leaves, fillA, fillR, splice, Nat.reduceLT, Nat.reduceEqDiff, Nat.reduceLeDiff, Nat.reduceAdd, Nat.reduceSub, Nat.reduceMul, Int.reduceBEq, Int.reduceBNe, Int.reduceLT, Int.reduceLE, Int.reduceEq, reduceIte, reduceCtorEq, da, int, boolA, RetP_go, resT, resC, resN, retV1, retV2, retV3, retV0, frzFZ, takeM, Option.some.injEq, List.cons_append, List.nil_append]
    rw [ia_sl0 rfl (by omega)]
    simp only [↓vp, vq0, vq1, vq2, vq3, vr0, vr1, vr2, vr3, vr4, vr5, vr6, vr7, vr8, vr9, vr10, vr11, vr12, vr13, vr14, vr15, vr16, vr17, vr18, vr19, vr20, vr21, vr22, vr23, vr24, vr25, vr26, vr27, vr28, vr29, vr30, vr31, vr32, vr33, vr34, opS, fpS, okP, pack, nAl, allocA, shId, leaves, fillA, fillR, splice, Nat.reduceLT, Nat.reduceEqDiff, Nat.reduceLeDiff, Nat.reduceAdd, Nat.reduceSub, Nat.reduceMul, Int.reduceBEq, Int.reduceBNe, Int.reduceLT, Int.reduceLE, Int.reduceEq, reduceIte, reduceCtorEq, da, int, boolA, RetP_go, resT, resC, resN, retV1, retV2, retV3, retV0, frzFZ, takeM, Option.some.injEq]
    rw [ia_sl0 rfl (by omega)]
    simp only [↓vp, vq0, vq1, vq2, vq3, vr0, vr1, vr2, vr3, vr4, vr5, vr6, vr7, vr8, vr9, vr10, vr11, vr12, vr13, vr14, vr15, vr16, vr17, vr18, vr19, vr20, vr21, vr22, vr23, vr24, vr25, vr26, vr27, vr28, vr29, vr30, vr31, vr32, vr33, vr34, opS, fpS, okP, pack, nAl, allocA, shId, leaves, fillA, fillR, splice, Nat.reduceLT, Nat.reduceEqDiff, Nat.reduceLeDiff, Nat.reduceAdd, Nat.reduceSub, Nat.reduceMul, Int.reduceBEq, Int.reduceBNe, Int.reduceLT, Int.reduceLE, Int.reduceEq, reduceIte, reduceCtorEq, da, int, boolA, RetP_go, resT, resC, resN, retV1, retV2, retV3, retV0, frzFZ, takeM, Option.some.injEq, hs1, opI0, opI1]
    rfl
theorem k84 {n : NodeM} (hn : okN n) (h1 : n.items.length ≤ 1000) (h2 : n.kids.length ≤ 1000) {k : Nat} (hk : (k : Int) < manyN n) {K : Heap} {L : List Blk} {Q : AV → Heap → Prop} : KW ft (.fn (.func 84) [] []) [.agg (nodeC n), int k] (hx K L) Q ↔ Q (.tup [.agg (nodeC (cutM n k).1), .agg (nodeC (cutM n k).2.1), encB (cutM n k).2.2]) (hx K L) := KW_of (s84 n hn h1 h2 k hk _)
end Go.VI

set_option linter.unusedVariables false
set_option linter.unusedSimpArgs false
set_option maxRecDepth 100000
namespace Go.VI
attribute [local congr] AW_congr OW_congr DW_congr NW_congr VW_congr GW_congr PW_congr KW_congr ite_congr' GV_congr CV_congr
def keyC (b : Bytes) : List AV := [encB b]
def encKs (l : List Bytes) : AV := .lst (l.map keyC)
def keysM (n : NodeM) : List Bytes := n.items.map (·.key) ++ (n.kids.drop 1).map (·.key)
theorem l142a (n : NodeM) (hs : n.items.length ≤ 1000) {Q : AExit → Env → Heap → Prop}
   (hex : ∀ f' K S, Rep K 1 S (n.items.map fun x => keyC x.key) → K.get 0 = some (.box false (nodeC n)) → f' 1 = .ptr 0 0 0 → f' 3 = S → Q (.exit 0) (mkE 38 f') (hx K [])) :
   ∀ (d i : Nat) (S : AV) (K : Heap) (f : Nat → AV), i + d = n.items.length → Rep K 1 S ((n.items.take i).map fun x => keyC x.key) → K.get 0 = some (.box false (nodeC n)) →
    f 1 = .ptr 0 0 0 → f 3 = S → f 9 = encI n.items → f 10 = int n.items.length → f 11 = int i →
    AW ft (.loop c142L0) (mkE 38 f) (hx K []) Q := by
  intro d
  induction d with
  | zero =>
    intro i S K f hd hr k0 h1 h3 h9 h10 h11
    have g : ((i : Int) < n.items.length) = False := by simp; omega
    rw [AW_loop]
    unfold c142L0
    rw [List.take_of_length_le (by omega)] at hr
    simp only [↓vp, vq0, vq1, vq2, vq3, vr0, vr1, vr2, vr3, vr4, vr5, vr6, vr7, vr8, vr9, vr10, vr11, vr12, vr13, vr14, vr15, vr16, vr17, vr18, vr19, vr20, vr21, vr22, vr23, vr24, vr25, vr26, vr27, vr28, vr29, vr30, vr31, vr32, vr33, vr34, opS, fpS, okP, pack, nAl, allocA, shId, leaves, fillA, fillR, splice, Nat.reduceLT, Nat.reduceEqDiff, Nat.reduceLeDiff, Nat.reduceAdd, Nat.reduceSub, Nat.reduceMul, Int.reduceBEq, Int.reduceBNe, Int.reduceLT, Int.reduceLE, Int.reduceEq, reduceIte, reduceCtorEq, da, int, boolA, h10, h11, g]
    refine hex _ K S hr k0 ?_ ?_ <;> simp only [↓vp, vq0, vq1, vq2, vq3, vr0, vr1, vr2, vr3, vr4, vr5, vr6, vr7, vr8, vr9, vr10, vr11, vr12, vr13, vr14, vr15, vr16, vr17, vr18, vr19, vr20, vr21, vr22, vr23, vr24, vr25, vr26, vr27, vr28, vr29, vr30, vr31, vr32, vr33, vr34, opS, fpS, okP, pack, nAl, allocA, shId, leaves, fillA, fillR, splice, Nat.reduceLT, Nat.reduceEqDiff, Nat.reduceLeDiff, Nat.reduceAdd, Nat.reduceSub, Nat.reduceMul, Int.reduceBEq, Int.reduceBNe, Int.reduceLT, Int.reduceLE, Int.reduceEq, reduceIte, reduceCtorEq, da, int, boolA, h1, h3]
  | succ d ih =>
    intro i S K f hd hr k0 h1 h3 h9 h10 h11
    have g : ((i : Int) < n.items.length) = True := by simp; omega
    have gi : i < n.items.length := by omega
    have w1 := wrap_succ (show i < 9223372036854775807 by omega)
    have ht := rep_take (fun x : ItemM => keyC x.key) gi
    have hlen : ((n.items.take i).map fun x => keyC x.key).length = i := by simp; omega
    have ap := fun nid L => appA_rep (nid := nid) (bytes := 24) hr (xs := [keyC n.items[i].key]) (by simp) rfl (by rw [hlen]; simp; omega) L
    rw [AW_loop]
    unfold c142L0
    simp only [keyC] at ap
    have hlt : (n.items.take i).length = i := by simp; omega
    simp only [↓vp, vq0, vq1, vq2, vq3, vr0, vr1, vr2, vr3, vr4, vr5, vr6, vr7, vr8, vr9, vr10, vr11, vr12, vr13, vr14, vr15, vr16, vr17, vr18, vr19, vr20, vr21, vr22, vr23, vr24, vr25, vr26, vr27, vr28, vr29, vr30, vr31, vr32, vr33, vr34, opS, fpS, okP, pack, nAl, allocA, shId, leaves, fillA, fillR, splice, Nat.reduceLT, Nat.reduceEqDiff, Nat.reduceLeDiff, Nat.reduceAdd, Nat.reduceSub, Nat.reduceMul, Int.reduceBEq, Int.reduceBNe, Int.reduceLT, Int.reduceLE, Int.reduceEq, reduceIte, reduceCtorEq, da, int, boolA, h1, h3, h9, h10, h11, g, atI gi, cI gi, ap, kill_next, w1, hlt]
    rw [← hx_nil (hx _ _)]
    refine ih (i + 1) (.sl (K.next + 2) 0 (i + 1)) _ _ (by omega) (.inr ⟨K.next + 2, ?_, ?_⟩) (kill_old hr k0 (fun r h => by cases h) _) ?_ ?_ ?_ ?_ ?_
    · rw [ht, List.length_append, hlen]
      rfl
    · rw [ht]
      simp only [↓vp, vq0, vq1, vq2, vq3, vr0, vr1, vr2, vr3, vr4, vr5, vr6, vr7, vr8, vr9, vr10, vr11, vr12, vr13, vr14, vr15, vr16, vr17, vr18, vr19, vr20, vr21, vr22, vr23, vr24, vr25, vr26, vr27, vr28, vr29, vr30, vr31, vr32, vr33, vr34, opS, fpS, okP, pack, nAl, allocA, shId, leaves, fillA, fillR, splice, Nat.reduceLT, Nat.reduceEqDiff, Nat.reduceLeDiff, Nat.reduceAdd, Nat.reduceSub, Nat.reduceMul, Int.reduceBEq, Int.reduceBNe, Int.reduceLT, Int.reduceLE, Int.reduceEq, reduceIte, reduceCtorEq, kill_next]
      rfl
    all_goals simp only [↓vp, vq0, vq1, vq2, vq3, vr0, vr1, vr2, vr3, vr4, vr5, vr6, vr7, vr8, vr9, vr10, vr11, vr12, vr13, vr14, vr15, vr16, vr17, vr18, vr19, vr20, vr21, vr22, vr23, vr24, vr25, vr26, vr27, vr28, vr29, vr30, vr31, vr32, vr33, vr34, opS, fpS, okP, pack, nAl, allocA, shId, leaves, fillA, fillR, splice, Nat.reduceLT, Nat.reduceEqDiff, Nat.reduceLeDiff, Nat.reduceAdd, Nat.reduceSub, Nat.reduceMul, Int.reduceBEq, Int.reduceBNe, Int.reduceLT, Int.reduceLE, Int.reduceEq, reduceIte, reduceCtorEq, da, int, boolA, h1, h9, h10, hlt]
theorem l142b (n : NodeM) (hs : n.kids.length ≤ 1000) (rows : List (List AV)) (hrw : rows.length ≤ 1000) {Q : AExit → Env → Heap → Prop}
   (hex : ∀ f' K S, Rep K 1 S (rows ++ ((n.kids.drop 1).map fun x => keyC x.key)) → f' 3 = S → Q (.exit 2) (mkE 38 f') (hx K [])) :
   ∀ (d i : Nat) (S : AV) (K : Heap) (f : Nat → AV), i + d = n.kids.length → Rep K 1 S (rows ++ (((n.kids.take i).drop 1).map fun x => keyC x.key)) →
    f 3 = S → f 22 = encK n.kids → f 23 = int n.kids.length → f 24 = int i →
    AW ft (.loop c142L1) (mkE 38 f) (hx K []) Q := by
  intro d
  induction d with
  | zero =>
    intro i S K f hd hr h3 h9 h10 h11
    have g : ((i : Int) < n.kids.length) = False := by simp; omega
    rw [AW_loop]
    unfold c142L1
    rw [List.take_of_length_le (by omega)] at hr
    simp only [↓vp, vq0, vq1, vq2, vq3, vr0, vr1, vr2, vr3, vr4, vr5, vr6, vr7, vr8, vr9, vr10, vr11, vr12, vr13, vr14, vr15, vr16, vr17, vr18, vr19, vr20, vr21, vr22, vr23, vr24, vr25, vr26, vr27, vr28, vr29, vr30, vr31, vr32, vr33, vr34, opS, fpS, okP, pack, nAl, allocA, shId, leaves, fillA, fillR, splice, Nat.reduceLT, Nat.reduceEqDiff, Nat.reduceLeDiff, Nat.reduceAdd, Nat.reduceSub, Nat.reduceMul, Int.reduceBEq, Int.reduceBNe, Int.reduceLT, Int.reduceLE, Int.reduceEq, reduceIte, reduceCtorEq, da, int, boolA, h10, h11, g]
    refine hex _ K S hr ?_
    simp only [↓vp, vq0, vq1, vq2, vq3, vr0, vr1, vr2, vr3, vr4, vr5, vr6, vr7, vr8, vr9, vr10, vr11, vr12, vr13, vr14, vr15, vr16, vr17, vr18, vr19, vr20, vr21, vr22, vr23, vr24, vr25, vr26, vr27, vr28, vr29, vr30, vr31, vr32, vr33, vr34, opS, fpS, okP, pack, nAl, allocA, shId, leaves, fillA, fillR, splice, Nat.reduceLT, Nat.reduceEqDiff, Nat.reduceLeDiff, Nat.reduceAdd, Nat.reduceSub, Nat.reduceMul, Int.reduceBEq, Int.reduceBNe, Int.reduceLT, Int.reduceLE, Int.reduceEq, reduceIte, reduceCtorEq, da, int, boolA, h3]
  | succ d ih =>
    intro i S K f hd hr h3 h9 h10 h11
    have g : ((i : Int) < n.kids.length) = True := by simp; omega
    have gi : i < n.kids.length := by omega
    have w1 := wrap_succ (show i < 9223372036854775807 by omega)
    rw [AW_loop]
    unfold c142L1
    by_cases h0 : i = 0
    · subst h0
      have g0 : ((0 : Int) < ((0 : Nat) : Int)) = False := by simp
      simp only [↓vp, vq0, vq1, vq2, vq3, vr0, vr1, vr2, vr3, vr4, vr5, vr6, vr7, vr8, vr9, vr10, vr11, vr12, vr13, vr14, vr15, vr16, vr17, vr18, vr19, vr20, vr21, vr22, vr23, vr24, vr25, vr26, vr27, vr28, vr29, vr30, vr31, vr32, vr33, vr34, opS, fpS, okP, pack, nAl, allocA, shId, leaves, fillA, fillR, splice, Nat.reduceLT, Nat.reduceEqDiff, Nat.reduceLeDiff, Nat.reduceAdd, Nat.reduceSub, Nat.reduceMul, Int.reduceBEq, Int.reduceBNe, Int.reduceLT, Int.reduceLE, Int.reduceEq, reduceIte, reduceCtorEq, da, int, boolA, h3, h9, h10, h11, g, g0, atK gi, cK gi, w1]
      rw [← hx_nil (hx _ _)]
      refine ih 1 S _ _ (by omega) ?_ ?_ ?_ ?_ ?_
      · have : (n.kids.take 1).drop 1 = [] := by simp
        rw [this]
        rw [List.take_zero, List.drop_nil] at hr
        exact hr.mono fun id h => get_old h _
      all_goals simp only [↓vp, vq0, vq1, vq2, vq3, vr0, vr1, vr2, vr3, vr4, vr5, vr6, vr7, vr8, vr9, vr10, vr11, vr12, vr13, vr14, vr15, vr16, vr17, vr18, vr19, vr20, vr21, vr22, vr23, vr24, vr25, vr26, vr27, vr28, vr29, vr30, vr31, vr32, vr33, vr34, opS, fpS, okP, pack, nAl, allocA, shId, leaves, fillA, fillR, splice, Nat.reduceLT, Nat.reduceEqDiff, Nat.reduceLeDiff, Nat.reduceAdd, Nat.reduceSub, Nat.reduceMul, Int.reduceBEq, Int.reduceBNe, Int.reduceLT, Int.reduceLE, Int.reduceEq, reduceIte, reduceCtorEq, da, int, boolA, h3, h9, h10]
    · have g0 : ((0 : Int) < (i : Int)) = True := eq_true (by omega)
      have ht : ((n.kids.take (i + 1)).drop 1) = ((n.kids.take i).drop 1) ++ [n.kids[i]] := by
        rw [List.take_succ_eq_append_getElem gi, List.drop_append_of_le_length (by simp; omega)]
      have hlen : (rows ++ (((n.kids.take i).drop 1).map fun x => keyC x.key)).length ≤ 2000 := by simp; omega
      have ap := fun nid L => appA_rep (nid := nid) (bytes := 24) hr (xs := [keyC n.kids[i].key]) (by simp) rfl (by simp only [List.length_singleton]; omega) L
      simp only [keyC] at ap
      simp only [↓vp, vq0, vq1, vq2, vq3, vr0, vr1, vr2, vr3, vr4, vr5, vr6, vr7, vr8, vr9, vr10, vr11, vr12, vr13, vr14, vr15, vr16, vr17, vr18, vr19, vr20, vr21, vr22, vr23, vr24, vr25, vr26, vr27, vr28, vr29, vr30, vr31, vr32, vr33, vr34, opS, fpS, okP, pack, nAl, allocA, shId, leaves, fillA, fillR, splice, Nat.reduceLT, Nat.reduceEqDiff, Nat.reduceLeDiff, Nat.reduceAdd, Nat.reduceSub, Nat.reduceMul, Int.reduceBEq, Int.reduceBNe, Int.reduceLT, Int.reduceLE, Int.reduceEq, reduceIte, reduceCtorEq, da, int, boolA, h3, h9, h10, h11, g, g0, atK gi, cK gi, ap, kill_next, w1]
      rw [← hx_nil (hx _ _)]
      refine ih (i + 1) (.sl (K.next + 2) 0 (rows ++ (((n.kids.take (i + 1)).drop 1).map fun x => keyC x.key)).length) _ _ (by omega) (.inr ⟨K.next + 2, ?_, ?_⟩) ?_ ?_ ?_ ?_
      · rfl
      · rw [ht]
        simp only [↓vp, vq0, vq1, vq2, vq3, vr0, vr1, vr2, vr3, vr4, vr5, vr6, vr7, vr8, vr9, vr10, vr11, vr12, vr13, vr14, vr15, vr16, vr17, vr18, vr19, vr20, vr21, vr22, vr23, vr24, vr25, vr26, vr27, vr28, vr29, vr30, vr31, vr32, vr33, vr34, opS, fpS, okP, pack, nAl, allocA, shId, leaves, fillA, fillR, splice, Nat.reduceLT, Nat.reduceEqDiff, Nat.reduceLeDiff, Nat.reduceAdd, Nat.reduceSub, Nat.reduceMul, Int.reduceBEq, Int.reduceBNe, Int.reduceLT, Int.reduceLE, Int.reduceEq, reduceIte, reduceCtorEq, kill_next, List.map_append, List.append_assoc]
        rfl
      · rw [ht]
        simp only [↓vp, vq0, vq1, vq2, vq3, vr0, vr1, vr2, vr3, vr4, vr5, vr6, vr7, vr8, vr9, vr10, vr11, vr12, vr13, vr14, vr15, vr16, vr17, vr18, vr19, vr20, vr21, vr22, vr23, vr24, vr25, vr26, vr27, vr28, vr29, vr30, vr31, vr32, vr33, vr34, opS, fpS, okP, pack, nAl, allocA, shId, leaves, fillA, fillR, splice, Nat.reduceLT, Nat.reduceEqDiff, Nat.reduceLeDiff, Nat.reduceAdd, Nat.reduceSub, Nat.reduceMul, Int.reduceBEq, Int.reduceBNe, Int.reduceLT, Int.reduceLE, Int.reduceEq, reduceIte, reduceCtorEq, da, int, boolA, List.map_append, List.length_append, Nat.add_assoc, keyC]
      all_goals simp only [↓vp, vq0, vq1, vq2, vq3, vr0, vr1, vr2, vr3, vr4, vr5, vr6, vr7, vr8, vr9, vr10, vr11, vr12, vr13, vr14, vr15, vr16, vr17, vr18, vr19, vr20, vr21, vr22, vr23, vr24, vr25, vr26, vr27, vr28, vr29, vr30, vr31, vr32, vr33, vr34, opS, fpS, okP, pack, nAl, allocA, shId, leaves, fillA, fillR, splice, Nat.reduceLT, Nat.reduceEqDiff, Nat.reduceLeDiff, Nat.reduceAdd, Nat.reduceSub, Nat.reduceMul, Int.reduceBEq, Int.reduceBNe, Int.reduceLT, Int.reduceLE, Int.reduceEq, reduceIte, reduceCtorEq, da, int, boolA, h9, h10]
theorem s142 (n : NodeM) (h1 : n.items.length ≤ 1000) (h2 : n.kids.length ≤ 1000) (H : Heap) : callL ft (.fn (.func 142) [] []) [.agg (nodeC n)] H = some (encKs (keysM n), H) := by
  refine call_p (as' := [.agg (nodeC n)]) rfl rfl (by simp) ?_
  unfold c142 r142
  simp only [↓vp, vq0, vq1, vq2, vq3, vr0, vr1, vr2, vr3, vr4, vr5, vr6, vr7, vr8, vr9, vr10, vr11, vr12, vr13, vr14, vr15, vr16, vr17, vr18, vr19, vr20, vr21, vr22, vr23, vr24, vr25, vr26, vr27, vr28, vr29, vr30, vr31, vr32, vr33, vr34, opS, fpS, okP, pack, nAl, allocA, shId, leaves, fillA, fillR, splice, Nat.reduceLT, Nat.reduceEqDiff, Nat.reduceLeDiff, Nat.reduceAdd, Nat.reduceSub, Nat.reduceMul, Int.reduceBEq, Int.reduceBNe, Int.reduceLT, Int.reduceLE, Int.reduceEq, reduceIte, reduceCtorEq, da, int, boolA]
  rw [← hx_nil (hx _ _)]
  refine l142a n h1 (fun f' K S hr k0 q1 q3 => ?_) n.items.length 0 (.sc (.slice none 0 0)) _ _ (by simp) (.inl ⟨rfl, by simp⟩) ?_ ?_ ?_ ?_ ?_ ?_
  · unfold c142R3
    have o0 := get_old k0
    simp only [↓vp, vq0, vq1, vq2, vq3, vr0, vr1, vr2, vr3, vr4, vr5, vr6, vr7, vr8, vr9, vr10, vr11, vr12, vr13, vr14, vr15, vr16, vr17, vr18, vr19, vr20, vr21, vr22, vr23, vr24, vr25, vr26, vr27, vr28, vr29, vr30, vr31, vr32, vr33, vr34, opS, fpS, okP, pack, nAl, allocA, shId, leaves, fillA, fillR, splice, Nat.reduceLT, Nat.reduceEqDiff, Nat.reduceLeDiff, Nat.reduceAdd, Nat.reduceSub, Nat.reduceMul, Int.reduceBEq, Int.reduceBNe, Int.reduceLT, Int.reduceLE, Int.reduceEq, reduceIte, reduceCtorEq, da, int, boolA, q1, q3, o0]
    refine l142b n h2 (n.items.map fun x => keyC x.key) (by simpa using h1) (fun f' K S hr q3 => ?_) n.kids.length 0 S _ _ (by simp) ?_ ?_ ?_ ?_ ?_
    · unfold c142R2
      obtain ⟨K', hK'⟩ := frz_rep (L := []) (by rw [hx_nil]; exact hr) 23
      simp only [↓vp, vq0, vq1, vq2, vq3, vr0, vr1, vr2, vr3, vr4, vr5, vr6, vr7, vr8, vr9, vr10, vr11, vr12, vr13, vr14, vr15, vr16, vr17, vr18, vr19, vr20, vr21, vr22, vr23, vr24, vr25, vr26, vr27, vr28, vr29, vr30, vr31, vr32, vr33, vr34, opS, fpS, okP, pack, nAl, allocA, shId, leaves, fillA, fillR, splice, Nat.reduceLT, Nat.reduceEqDiff, Nat.reduceLeDiff, Nat.reduceAdd, Nat.reduceSub, Nat.reduceMul, Int.reduceBEq, Int.reduceBNe, Int.reduceLT, Int.reduceLE, Int.reduceEq, reduceIte, reduceCtorEq, da, int, boolA, RetP_go, resT, resC, resN, retV1, retV2, retV3, retV0, frzFZ, takeM, Option.some.injEq, q3, hK']
      simp only [encKs, keysM, List.map_append, List.map_map]
      rfl
    · rw [List.take_zero, List.drop_nil, List.map_nil, List.append_nil]
      exact hr
    all_goals simp only [↓vp, vq0, vq1, vq2, vq3, vr0, vr1, vr2, vr3, vr4, vr5, vr6, vr7, vr8, vr9, vr10, vr11, vr12, vr13, vr14, vr15, vr16, vr17, vr18, vr19, vr20, vr21, vr22, vr23, vr24, vr25, vr26, vr27, vr28, vr29, vr30, vr31, vr32, vr33, vr34, opS, fpS, okP, pack, nAl, allocA, shId, leaves, fillA, fillR, splice, Nat.reduceLT, Nat.reduceEqDiff, Nat.reduceLeDiff, Nat.reduceAdd, Nat.reduceSub, Nat.reduceMul, Int.reduceBEq, Int.reduceBNe, Int.reduceLT, Int.reduceLE, Int.reduceEq, reduceIte, reduceCtorEq, da, int, boolA, q3]
    try rfl
  all_goals first | rfl | (simp only [↓vp, vq0, vq1, vq2, vq3, vr0, vr1, vr2, vr3, vr4, vr5, vr6, vr7, vr8, vr9, vr10, vr11, vr12, vr13, vr14, vr15, vr16, vr17, vr18, vr19, vr20, vr21, vr22, vr23, vr24, vr25, vr26, vr27, vr28, vr29, vr30, vr31, vr32, vr33, vr34, opS, fpS, okP, pack, nAl, allocA, shId, leaves, fillA, fillR, splice, Nat.reduceLT, Nat.reduceEqDiff, Nat.reduceLeDiff, Nat.reduceAdd, Nat.reduceSub, Nat.reduceMul, Int.reduceBEq, Int.reduceBNe, Int.reduceLT, Int.reduceLE, Int.reduceEq, reduceIte, reduceCtorEq, da, int, boolA]; done)
theorem k142 {n : NodeM} (h1 : n.items.length ≤ 1000) (h2 : n.kids.length ≤ 1000) {K : Heap} {L : List Blk} {Q : AV → Heap → Prop} :
    KW ft (.fn (.func 142) [] []) [.agg (nodeC n)] (hx K L) Q ↔ Q (encKs (keysM n)) (hx K L) := KW_of (s142 n h1 h2 _)
end Go.VI
