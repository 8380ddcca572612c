import Derived.Test.YtkjeigdiojdfnaaS4
/- What the claim hangs on, part 5: TI TJ TK TL CA CB CC CD CE CF CG CH CI. -/
set_option linter.unusedVariables false
set_option linter.unusedSimpArgs false
set_option maxRecDepth 100000
namespace Go.VI
attribute [local congr] AW_congr OW_congr DW_congr NW_congr VW_congr GW_congr PW_congr KW_congr ite_congr' GV_congr CV_congr
theorem l26c (kids : List KidM) (hn : kids.length ≤ 100) (fan : Nat) (hf : 2 ≤ fan ∧ fan ≤ 20) (id9 next0 : Nat) (l0 : List NamedM) (hnx : next0 ≤ 1000) (hl0 : l0.length ≤ 1000) (R : List NamedM × List KidM) {Q : AExit → Env → Heap → Prop}
   (hex : ∀ f' K S8 S15, Rep K 4 S8 ((l0 ++ R.1).map namedC) → Rep K 2 S15 (R.2.map kidC) → f' 2 = int fan → f' 8 = S8 → f' 15 = S15 → f' 10 = int (next0 + R.1.length : Nat) → Q (.exit 6) (mkE 131 f') (hx K [])) :
   ∀ (d at_ : Nat) (acc : List NamedM) (kacc : List KidM) (S8 S15 : AV) (B : Nat) (K : Heap) (f : Nat → AV), kids.length ≤ at_ + d → acc.length = kacc.length → acc.length + d ≤ 100 → at_ ≤ kids.length →
    R = (acc ++ (levelM kids fan d at_ (next0 + acc.length)).1, kacc ++ (levelM kids fan d at_ (next0 + acc.length)).2) → Rep K 4 S8 ((l0 ++ acc).map namedC) → RepB B K 2 S15 (kacc.map kidC) → id9 < B → K.get id9 = some (.row false 2 (kids.map kidC)) →
    f 2 = int fan → f 8 = S8 → f 9 = .sl id9 0 kids.length → f 10 = int (next0 + acc.length : Nat) → f 15 = S15 → f 16 = int at_ →
    AW ft (.loop c26L4) (mkE 131 f) (hx K []) Q := by
  intro d
  induction d with
  | zero =>
    intro at_ acc kacc S8 S15 B K f hd hl hl2 ha hR h8 h15 hB g9 q2 q8 q9 q10 q15 q16
    have c1 : ((at_ : Int) < kids.length) = False := eq_false (by omega)
    rw [AW_loop]
    unfold c26L4
    simp only [levelM, List.append_nil] at hR
    simp only [↓vp, vq0, vq1, vq2, vq3, vr0, vr1, vr2, vr3, vr4, vr5, vr6, vr7, vr8, vr9, vr10, vr11, vr12, vr13, vr14, vr15, vr16, vr17, vr18, vr19, vr20, vr21, vr22, vr23, vr24, vr25, vr26, vr27, vr28, vr29, vr30, vr31, vr32, vr33, vr34, opS, fpS, okP, pack, nAl, allocA, shId, leaves, fillA, fillR, splice, Nat.reduceLT, Nat.reduceEqDiff, Nat.reduceLeDiff, Nat.reduceAdd, Nat.reduceSub, Nat.reduceMul, Int.reduceBEq, Int.reduceBNe, Int.reduceLT, Int.reduceLE, Int.reduceEq, reduceIte, reduceCtorEq, da, int, boolA, q9, q16, c1]
    refine hex _ K S8 S15 (by rw [hR]; exact h8) (by rw [hR]; exact h15.rep) ?_ ?_ ?_ ?_ <;> simp only [↓vp, vq0, vq1, vq2, vq3, vr0, vr1, vr2, vr3, vr4, vr5, vr6, vr7, vr8, vr9, vr10, vr11, vr12, vr13, vr14, vr15, vr16, vr17, vr18, vr19, vr20, vr21, vr22, vr23, vr24, vr25, vr26, vr27, vr28, vr29, vr30, vr31, vr32, vr33, vr34, opS, fpS, okP, pack, nAl, allocA, shId, leaves, fillA, fillR, splice, Nat.reduceLT, Nat.reduceEqDiff, Nat.reduceLeDiff, Nat.reduceAdd, Nat.reduceSub, Nat.reduceMul, Int.reduceBEq, Int.reduceBNe, Int.reduceLT, Int.reduceLE, Int.reduceEq, reduceIte, reduceCtorEq, da, int, boolA, q2, q8, q10, q15, hR]
  | succ d ih =>
    intro at_ acc kacc S8 S15 B K f hd hl hl2 ha hR h8 h15 hB g9 q2 q8 q9 q10 q15 q16
    by_cases hc : at_ < kids.length
    · rw [levelM, if_pos hc] at hR
      have c1 : ((at_ : Int) < kids.length) = True := eq_true (by omega)
      have w1 : IntKind.i64.wrap ((at_ : Int) + (fan : Int)) = ((at_ + fan : Nat) : Int) := by rw [wrap_i64 (by omega)]; rfl
      have w2 : IntKind.i64.wrap (((at_ + fan : Nat) : Int) + 1) = ((at_ + (fan + 1) : Nat) : Int) := by rw [wrap_i64 (by omega)]; rfl
      have w3 : IntKind.i64.wrap (((next0 + acc.length : Nat) : Int) + 1) = ((next0 + (acc.length + 1) : Nat) : Int) := by rw [wrap_i64 (by omega)]; omega
      have l9 := Heap.get_lt g9
      have o9 := get_old g9
      have b1 : at_ < cutTo kids.length at_ fan := by unfold cutTo; split <;> omega
      have b2 : cutTo kids.length at_ fan ≤ kids.length := by unfold cutTo; split <;> omega
      have hT : ((kids.length : Int) ≤ ((at_ + (fan + 1) : Nat) : Int)) = (kids.length ≤ at_ + fan + 1) := propext (by omega)
      have hTv : cutTo kids.length at_ fan = if kids.length ≤ at_ + fan + 1 then kids.length else at_ + fan := rfl
      generalize cutTo kids.length at_ fan = T at *
      have hg : ∃ x g, (kids.drop at_).take (T - at_) = x :: g ∧ g.length + 1 = T - at_ := by
        refine ⟨kids[at_], (kids.drop (at_ + 1)).take (T - at_ - 1), ?_, by simp; omega⟩
        rw [List.drop_eq_getElem_cons hc, show T - at_ = (T - at_ - 1) + 1 by omega, List.take_succ_cons]
        simp
      obtain ⟨x, g, hg, hgl⟩ := hg
      have hrow : ((kids.map kidC).drop at_).take (T - at_) = kidC x :: g.map kidC := by
        rw [← List.map_drop, ← List.map_take, hg]; rfl
      have sl9 : ∀ L, sliceA (hx K L) 2 (.sl id9 0 kids.length) (some (at_ : Int)) (some (T : Int)) none = some (.sl id9 at_ (T - at_)) := fun L => by
        rw [slA, rowSz_of (o9 L), if_pos rfl]
        unfold boundsA
        simp only [Option.getD_none, Option.getD_some]
        rw [if_pos (by omega)]
        simp
        omega
      have ro9 : ∀ L, rowsOf (hx K L) (.sl id9 at_ (T - at_)) = some (kidC x :: g.map kidC) := fun L => by
        rw [rowsOf_sl, o9 L]
        simp only
        rw [if_pos (by simp; omega), hrow]
      have cp : ((0 : Int) < ((g.length + 1 : Nat) : Int)) = True := eq_true (by omega)
      have kd1 : (kidC x).drop 1 = [int x.ref] := rfl
      have tkg : ∀ (a : List AV), (a :: g.map kidC).take (g.length + 1) = a :: g.map kidC := fun a => List.take_of_length_le (by simp)
      have szk : allSz 2 (g.map kidC) = true := by simp [allSz, len_kidC]
      rw [hg] at hR
      have hb1 : ((g.length + 1) * 32 ≤ 140737488355328) = True := eq_true (by omega)
      have ap15 := fun nid L => appA_rep (nid := nid) (bytes := 32) h15.rep (xs := [[encB x.key, int (next0 + acc.length : Nat)]]) (by simp) rfl (by simp; omega) L
      have k15 := kill_next K S15
      have h8' : Rep (kill K S15) 4 S8 ((l0 ++ acc).map namedC) := h8.mono fun j h => kill_get h15.rep h fun r e => by cases e
      have ap8 := fun nid L => appA_rep (nid := nid) (bytes := 64) h8' (xs := [namedC (brN (x :: g) (next0 + acc.length : Nat))]) (by simp) rfl (by simp; omega) L
      have k8 : (kill (kill K S15) S8).next = K.next := by rw [kill_next, kill_next]
      have g9' : (kill (kill K S15) S8).get id9 = some (.row false 2 (kids.map kidC)) := by
        refine kill_get h8' ?_ fun r e => by cases e
        rw [h15.kill.2 id9 hB, g9]
      have step : ∀ (f : Nat → AV) (L : List Blk) (i j : Nat), K.next ≤ i → K.next ≤ j → (hx (kill (kill K S15) S8) L).get i = some (.row false 4 ((l0 ++ (acc ++ [brN (x :: g) (next0 + acc.length : Nat)])).map namedC)) → (hx (kill (kill K S15) S8) L).get j = some (.row false 2 ((kacc ++ [brK (x :: g) (next0 + acc.length : Nat)]).map kidC)) →
          f 2 = int fan → f 8 = .sl i 0 (l0.length + (acc.length + 1)) → f 9 = .sl id9 0 kids.length → f 10 = int (next0 + (acc.length + 1) : Nat) → f 15 = .sl j 0 (kacc.length + 1) → f 16 = int T →
          AW ft (.loop c26L4) (mkE 131 f) (hx (kill (kill K S15) S8) L) Q := fun f L i j hi hj gi gj z2 z8 z9 z10 z15 z16 => by
        rw [← hx_nil (hx (kill (kill K S15) S8) L)]
        refine ih T (acc ++ [brN (x :: g) (next0 + acc.length : Nat)]) (kacc ++ [brK (x :: g) (next0 + acc.length : Nat)]) _ _ K.next (hx (kill (kill K S15) S8) L) f (by omega) (by simp; omega) (by simp; omega) b2 ?_ (.inr ⟨i, ?_, gi⟩) (.inr ⟨j, hj, ?_, gj⟩) l9 (get_old g9' L) z2 z8 z9 ?_ z15 z16
        · rw [hR]
          simp [List.append_assoc, Nat.add_assoc]
        · simp
        · simp
        · simpa using z10
      have kc : kidC (⟨[], x.ref⟩ : KidM) = [.lst [], .sc (.int .i64 x.ref)] := rfl
      simp only [brN, clearK, namedC, nodeC, encI, encK, List.map_nil, List.map_cons, kc, int, boolA] at ap8 ap15
      rw [AW_loop]
      unfold c26L4
      by_cases c2 : kids.length ≤ at_ + (fan + 1)
      · rw [if_pos (by omega)] at hTv
        subst hTv
        simp only [↓vp, vq0, vq1, vq2, vq3, vr0, vr1, vr2, vr3, vr4, vr5, vr6, vr7, vr8, vr9, vr10, vr11, vr12, vr13, vr14, vr15, vr16, vr17, vr18, vr19, vr20, vr21, vr22, vr23, vr24, vr25, vr26, vr27, vr28, vr29, vr30, vr31, vr32, vr33, vr34, opS, fpS, okP, pack, nAl, allocA, shId, leaves, fillA, fillR, splice, Nat.reduceLT, Nat.reduceEqDiff, Nat.reduceLeDiff, Nat.reduceAdd, Nat.reduceSub, Nat.reduceMul, Int.reduceBEq, Int.reduceBNe, Int.reduceLT, Int.reduceLE, Int.reduceEq, reduceIte, reduceCtorEq, da, int, boolA, q2, q8, q9, q10, q15, q16, c1, w1, w2, w3, hT, c2, opI1, opI0, sl9, ro9, szk, hb1, ias, rsz, Int.toNat_zero, ap15, k15, ap8, k8, cp, kd1, tkg]
        refine step _ _ (K.next + 6) (K.next + 4) (by omega) (by omega) ?_ ?_ ?_ ?_ ?_ ?_ ?_ ?_
        · simp only [↓vp, vq0, vq1, vq2, vq3, vr0, vr1, vr2, vr3, vr4, vr5, vr6, vr7, vr8, vr9, vr10, vr11, vr12, vr13, vr14, vr15, vr16, vr17, vr18, vr19, vr20, vr21, vr22, vr23, vr24, vr25, vr26, vr27, vr28, vr29, vr30, vr31, vr32, vr33, vr34, opS, fpS, okP, pack, nAl, allocA, shId, leaves, fillA, fillR, splice, Nat.reduceLT, Nat.reduceEqDiff, Nat.reduceLeDiff, Nat.reduceAdd, Nat.reduceSub, Nat.reduceMul, Int.reduceBEq, Int.reduceBNe, Int.reduceLT, Int.reduceLE, Int.reduceEq, reduceIte, reduceCtorEq, k8, List.map_append, List.append_assoc]
          rfl
        · simp only [↓vp, vq0, vq1, vq2, vq3, vr0, vr1, vr2, vr3, vr4, vr5, vr6, vr7, vr8, vr9, vr10, vr11, vr12, vr13, vr14, vr15, vr16, vr17, vr18, vr19, vr20, vr21, vr22, vr23, vr24, vr25, vr26, vr27, vr28, vr29, vr30, vr31, vr32, vr33, vr34, opS, fpS, okP, pack, nAl, allocA, shId, leaves, fillA, fillR, splice, Nat.reduceLT, Nat.reduceEqDiff, Nat.reduceLeDiff, Nat.reduceAdd, Nat.reduceSub, Nat.reduceMul, Int.reduceBEq, Int.reduceBNe, Int.reduceLT, Int.reduceLE, Int.reduceEq, reduceIte, reduceCtorEq, k8, List.map_append]
          rfl
        all_goals simp only [↓vp, vq0, vq1, vq2, vq3, vr0, vr1, vr2, vr3, vr4, vr5, vr6, vr7, vr8, vr9, vr10, vr11, vr12, vr13, vr14, vr15, vr16, vr17, vr18, vr19, vr20, vr21, vr22, vr23, vr24, vr25, vr26, vr27, vr28, vr29, vr30, vr31, vr32, vr33, vr34, opS, fpS, okP, pack, nAl, allocA, shId, leaves, fillA, fillR, splice, Nat.reduceLT, Nat.reduceEqDiff, Nat.reduceLeDiff, Nat.reduceAdd, Nat.reduceSub, Nat.reduceMul, Int.reduceBEq, Int.reduceBNe, Int.reduceLT, Int.reduceLE, Int.reduceEq, reduceIte, reduceCtorEq, da, int, boolA, q2, q9, List.length_append]
      · rw [if_neg (by omega)] at hTv
        subst hTv
        simp only [↓vp, vq0, vq1, vq2, vq3, vr0, vr1, vr2, vr3, vr4, vr5, vr6, vr7, vr8, vr9, vr10, vr11, vr12, vr13, vr14, vr15, vr16, vr17, vr18, vr19, vr20, vr21, vr22, vr23, vr24, vr25, vr26, vr27, vr28, vr29, vr30, vr31, vr32, vr33, vr34, opS, fpS, okP, pack, nAl, allocA, shId, leaves, fillA, fillR, splice, Nat.reduceLT, Nat.reduceEqDiff, Nat.reduceLeDiff, Nat.reduceAdd, Nat.reduceSub, Nat.reduceMul, Int.reduceBEq, Int.reduceBNe, Int.reduceLT, Int.reduceLE, Int.reduceEq, reduceIte, reduceCtorEq, da, int, boolA, q2, q8, q9, q10, q15, q16, c1, w1, w2, w3, hT, c2, opI1, opI0, sl9, ro9, szk, hb1, ias, rsz, Int.toNat_zero, ap15, k15, ap8, k8, cp, kd1, tkg]
        refine step _ _ (K.next + 6) (K.next + 4) (by omega) (by omega) ?_ ?_ ?_ ?_ ?_ ?_ ?_ ?_
        · simp only [↓vp, vq0, vq1, vq2, vq3, vr0, vr1, vr2, vr3, vr4, vr5, vr6, vr7, vr8, vr9, vr10, vr11, vr12, vr13, vr14, vr15, vr16, vr17, vr18, vr19, vr20, vr21, vr22, vr23, vr24, vr25, vr26, vr27, vr28, vr29, vr30, vr31, vr32, vr33, vr34, opS, fpS, okP, pack, nAl, allocA, shId, leaves, fillA, fillR, splice, Nat.reduceLT, Nat.reduceEqDiff, Nat.reduceLeDiff, Nat.reduceAdd, Nat.reduceSub, Nat.reduceMul, Int.reduceBEq, Int.reduceBNe, Int.reduceLT, Int.reduceLE, Int.reduceEq, reduceIte, reduceCtorEq, k8, List.map_append, List.append_assoc]
          rfl
        · simp only [↓vp, vq0, vq1, vq2, vq3, vr0, vr1, vr2, vr3, vr4, vr5, vr6, vr7, vr8, vr9, vr10, vr11, vr12, vr13, vr14, vr15, vr16, vr17, vr18, vr19, vr20, vr21, vr22, vr23, vr24, vr25, vr26, vr27, vr28, vr29, vr30, vr31, vr32, vr33, vr34, opS, fpS, okP, pack, nAl, allocA, shId, leaves, fillA, fillR, splice, Nat.reduceLT, Nat.reduceEqDiff, Nat.reduceLeDiff, Nat.reduceAdd, Nat.reduceSub, Nat.reduceMul, Int.reduceBEq, Int.reduceBNe, Int.reduceLT, Int.reduceLE, Int.reduceEq, reduceIte, reduceCtorEq, k8, List.map_append]
          rfl
        all_goals simp only [↓vp, vq0, vq1, vq2, vq3, vr0, vr1, vr2, vr3, vr4, vr5, vr6, vr7, vr8, vr9, vr10, vr11, vr12, vr13, vr14, vr15, vr16, vr17, vr18, vr19, vr20, vr21, vr22, vr23, vr24, vr25, vr26, vr27, vr28, vr29, vr30, vr31, vr32, vr33, vr34, opS, fpS, okP, pack, nAl, allocA, shId, leaves, fillA, fillR, splice, Nat.reduceLT, Nat.reduceEqDiff, Nat.reduceLeDiff, Nat.reduceAdd, Nat.reduceSub, Nat.reduceMul, Int.reduceBEq, Int.reduceBNe, Int.reduceLT, Int.reduceLE, Int.reduceEq, reduceIte, reduceCtorEq, da, int, boolA, q2, q9, List.length_append]
    · have c1 : ((at_ : Int) < kids.length) = False := eq_false (by omega)
      rw [levelM, if_neg hc, List.append_nil, List.append_nil] at hR
      rw [AW_loop]
      unfold c26L4
      simp only [↓vp, vq0, vq1, vq2, vq3, vr0, vr1, vr2, vr3, vr4, vr5, vr6, vr7, vr8, vr9, vr10, vr11, vr12, vr13, vr14, vr15, vr16, vr17, vr18, vr19, vr20, vr21, vr22, vr23, vr24, vr25, vr26, vr27, vr28, vr29, vr30, vr31, vr32, vr33, vr34, opS, fpS, okP, pack, nAl, allocA, shId, leaves, fillA, fillR, splice, Nat.reduceLT, Nat.reduceEqDiff, Nat.reduceLeDiff, Nat.reduceAdd, Nat.reduceSub, Nat.reduceMul, Int.reduceBEq, Int.reduceBNe, Int.reduceLT, Int.reduceLE, Int.reduceEq, reduceIte, reduceCtorEq, da, int, boolA, q9, q16, c1]
      refine hex _ K S8 S15 (by rw [hR]; exact h8) (by rw [hR]; exact h15.rep) ?_ ?_ ?_ ?_ <;> simp only [↓vp, vq0, vq1, vq2, vq3, vr0, vr1, vr2, vr3, vr4, vr5, vr6, vr7, vr8, vr9, vr10, vr11, vr12, vr13, vr14, vr15, vr16, vr17, vr18, vr19, vr20, vr21, vr22, vr23, vr24, vr25, vr26, vr27, vr28, vr29, vr30, vr31, vr32, vr33, vr34, opS, fpS, okP, pack, nAl, allocA, shId, leaves, fillA, fillR, splice, Nat.reduceLT, Nat.reduceEqDiff, Nat.reduceLeDiff, Nat.reduceAdd, Nat.reduceSub, Nat.reduceMul, Int.reduceBEq, Int.reduceBNe, Int.reduceLT, Int.reduceLE, Int.reduceEq, reduceIte, reduceCtorEq, da, int, boolA, q2, q8, q10, q15, hR]
theorem level_len (kids : List KidM) (fan : Nat) (hf : 2 ≤ fan) : ∀ (d at_ next : Nat), (at_ = kids.length ∨ at_ + 2 ≤ kids.length) → kids.length ≤ at_ + d →
    2 * (levelM kids fan d at_ next).2.length ≤ kids.length - at_ ∧ (levelM kids fan d at_ next).1.length = (levelM kids fan d at_ next).2.length ∧ (at_ < kids.length → 0 < (levelM kids fan d at_ next).2.length)
  | 0, at_, next, h, hd => by simp [levelM]; omega
  | d + 1, at_, next, h, hd => by
    rw [levelM]
    by_cases hc : at_ < kids.length
    · rw [if_pos hc]
      have h2 : at_ + 2 ≤ kids.length := by omega
      have e : cutTo kids.length at_ fan = kids.length ∨ (cutTo kids.length at_ fan = at_ + fan ∧ at_ + fan + 2 ≤ kids.length) := by unfold cutTo; split <;> omega
      obtain ⟨g1, g2, g3⟩ := level_len kids fan hf d (cutTo kids.length at_ fan) (next + 1) (by omega) (by omega)
      refine ⟨?_, by simp [g2], fun _ => by simp⟩
      simp only [List.length_cons]
      omega
    · rw [if_neg hc]
      simp
      omega
theorem l26d (fan : Nat) (hf : 2 ≤ fan ∧ fan ≤ 20) (R : List NamedM × Int) {Q : AExit → Env → Heap → Prop}
   (hex : ∀ f' K S8 S9 k, Rep K 4 S8 (R.1.map namedC) → Rep K 2 S9 [kidC k] → R.2 = k.ref → f' 8 = S8 → f' 9 = S9 → Q (.exit 4) (mkE 131 f') (hx K [])) :
   ∀ (d : Nat) (kids : List KidM) (l0 : List NamedM) (S8 S9 : AV) (K : Heap) (f : Nat → AV), kids.length ≤ d + 1 → 0 < kids.length → kids.length ≤ 99 → l0.length + kids.length ≤ 200 → R = (l0 ++ (upM fan d kids (2 + l0.length)).1, (upM fan d kids (2 + l0.length)).2) →
    Rep K 4 S8 (l0.map namedC) → Rep K 2 S9 (kids.map kidC) → f 2 = int fan → f 8 = S8 → f 9 = S9 → f 10 = int (2 + l0.length : Nat) →
    AW ft (.loop c26L6) (mkE 131 f) (hx K []) Q := by
  have done : ∀ (kids : List KidM) (l0 : List NamedM) (S8 S9 : AV) (K : Heap) (f : Nat → AV), kids.length = 1 → R = (l0, (kids[0]?.map (·.ref)).getD 0) → Rep K 4 S8 (l0.map namedC) → Rep K 2 S9 (kids.map kidC) → f 2 = int fan → f 8 = S8 → f 9 = S9 → AW ft (.loop c26L6) (mkE 131 f) (hx K []) Q := by
    intro kids l0 S8 S9 K f hk hR h8 h9 q2 q8 q9
    obtain ⟨k, rfl⟩ : ∃ k, kids = [k] := by
      match kids, hk with
      | [k], _ => exact ⟨k, rfl⟩
    rcases h9 with ⟨_, h⟩ | ⟨id, rfl, h9⟩
    · cases h
    · have c1 : ((1 : Int) < (([k].map kidC).length : Int)) = False := eq_false (by simp)
      rw [AW_loop]
      unfold c26L6
      simp only [↓vp, vq0, vq1, vq2, vq3, vr0, vr1, vr2, vr3, vr4, vr5, vr6, vr7, vr8, vr9, vr10, vr11, vr12, vr13, vr14, vr15, vr16, vr17, vr18, vr19, vr20, vr21, vr22, vr23, vr24, vr25, vr26, vr27, vr28, vr29, vr30, vr31, vr32, vr33, vr34, opS, fpS, okP, pack, nAl, allocA, shId, leaves, fillA, fillR, splice, Nat.reduceLT, Nat.reduceEqDiff, Nat.reduceLeDiff, Nat.reduceAdd, Nat.reduceSub, Nat.reduceMul, Int.reduceBEq, Int.reduceBNe, Int.reduceLT, Int.reduceLE, Int.reduceEq, reduceIte, reduceCtorEq, da, int, boolA, q9]
      refine hex _ K S8 (.sl id 0 1) k (by rw [hR]; exact h8) (.inr ⟨id, rfl, h9⟩) (by rw [hR]; rfl) ?_ ?_ <;> simp only [↓vp, vq0, vq1, vq2, vq3, vr0, vr1, vr2, vr3, vr4, vr5, vr6, vr7, vr8, vr9, vr10, vr11, vr12, vr13, vr14, vr15, vr16, vr17, vr18, vr19, vr20, vr21, vr22, vr23, vr24, vr25, vr26, vr27, vr28, vr29, vr30, vr31, vr32, vr33, vr34, opS, fpS, okP, pack, nAl, allocA, shId, leaves, fillA, fillR, splice, Nat.reduceLT, Nat.reduceEqDiff, Nat.reduceLeDiff, Nat.reduceAdd, Nat.reduceSub, Nat.reduceMul, Int.reduceBEq, Int.reduceBNe, Int.reduceLT, Int.reduceLE, Int.reduceEq, reduceIte, reduceCtorEq, da, int, boolA, q8, q9]
  intro d
  induction d with
  | zero =>
    intro kids l0 S8 S9 K f hd h1 h99 h200 hR h8 h9 q2 q8 q9 q10
    refine done kids l0 S8 S9 K f (by omega) (by rw [hR]; simp [upM]) h8 h9 q2 q8 q9
  | succ d ih =>
    intro kids l0 S8 S9 K f hd h1 h99 h200 hR h8 h9 q2 q8 q9 q10
    by_cases hk : 1 < kids.length
    · rw [upM, if_pos hk] at hR
      obtain ⟨g1, g2, g3⟩ := level_len kids fan hf.1 kids.length 0 (2 + l0.length) (by omega) (by omega)
      have g3 := g3 (by omega)
      have h9' := h9
      rcases h9' with ⟨_, h⟩ | ⟨id, rfl, h9'⟩
      · have : kids = [] := by simpa using h
        rw [this] at hk; simp at hk
      · have c1 : ((1 : Int) < (kids.length : Int)) = True := eq_true (by omega)
        rw [List.length_map] at q9
        rw [AW_loop]
        unfold c26L6
        simp only [↓vp, vq0, vq1, vq2, vq3, vr0, vr1, vr2, vr3, vr4, vr5, vr6, vr7, vr8, vr9, vr10, vr11, vr12, vr13, vr14, vr15, vr16, vr17, vr18, vr19, vr20, vr21, vr22, vr23, vr24, vr25, vr26, vr27, vr28, vr29, vr30, vr31, vr32, vr33, vr34, opS, fpS, okP, pack, nAl, allocA, shId, leaves, fillA, fillR, splice, Nat.reduceLT, Nat.reduceEqDiff, Nat.reduceLeDiff, Nat.reduceAdd, Nat.reduceSub, Nat.reduceMul, Int.reduceBEq, Int.reduceBNe, Int.reduceLT, Int.reduceLE, Int.reduceEq, reduceIte, reduceCtorEq, da, int, boolA, q9, c1]
        refine l26c kids (by omega) fan hf id (2 + l0.length) l0 (by omega) (by omega) (levelM kids fan kids.length 0 (2 + l0.length)) (fun f' K' S8' S15 r8 r15 p2 p8 p15 p10 => ?_) kids.length 0 [] [] S8 (.sc (.slice none 0 0)) K.next K _ (by omega) rfl (by simp; omega) (by omega) ?_ ?_ (.inl ⟨rfl, rfl⟩) (Heap.get_lt h9') h9' ?_ ?_ ?_ ?_ ?_ ?_
        · unfold c26R5
          simp only [↓vp, vq0, vq1, vq2, vq3, vr0, vr1, vr2, vr3, vr4, vr5, vr6, vr7, vr8, vr9, vr10, vr11, vr12, vr13, vr14, vr15, vr16, vr17, vr18, vr19, vr20, vr21, vr22, vr23, vr24, vr25, vr26, vr27, vr28, vr29, vr30, vr31, vr32, vr33, vr34, opS, fpS, okP, pack, nAl, allocA, shId, leaves, fillA, fillR, splice, Nat.reduceLT, Nat.reduceEqDiff, Nat.reduceLeDiff, Nat.reduceAdd, Nat.reduceSub, Nat.reduceMul, Int.reduceBEq, Int.reduceBNe, Int.reduceLT, Int.reduceLE, Int.reduceEq, reduceIte, reduceCtorEq, da, int, boolA, p15]
          refine ih (levelM kids fan kids.length 0 (2 + l0.length)).2 (l0 ++ (levelM kids fan kids.length 0 (2 + l0.length)).1) S8' S15 K' _ (by omega) g3 (by omega) (by simp; omega) ?_ r8 r15 ?_ ?_ ?_ ?_
          · rw [hR]
            simp [List.append_assoc, Nat.add_assoc]
          · simp only [↓vp, vq0, vq1, vq2, vq3, vr0, vr1, vr2, vr3, vr4, vr5, vr6, vr7, vr8, vr9, vr10, vr11, vr12, vr13, vr14, vr15, vr16, vr17, vr18, vr19, vr20, vr21, vr22, vr23, vr24, vr25, vr26, vr27, vr28, vr29, vr30, vr31, vr32, vr33, vr34, opS, fpS, okP, pack, nAl, allocA, shId, leaves, fillA, fillR, splice, Nat.reduceLT, Nat.reduceEqDiff, Nat.reduceLeDiff, Nat.reduceAdd, Nat.reduceSub, Nat.reduceMul, Int.reduceBEq, Int.reduceBNe, Int.reduceLT, Int.reduceLE, Int.reduceEq, reduceIte, reduceCtorEq, da, int, boolA, p2]
          · simp only [↓vp, vq0, vq1, vq2, vq3, vr0, vr1, vr2, vr3, vr4, vr5, vr6, vr7, vr8, vr9, vr10, vr11, vr12, vr13, vr14, vr15, vr16, vr17, vr18, vr19, vr20, vr21, vr22, vr23, vr24, vr25, vr26, vr27, vr28, vr29, vr30, vr31, vr32, vr33, vr34, opS, fpS, okP, pack, nAl, allocA, shId, leaves, fillA, fillR, splice, Nat.reduceLT, Nat.reduceEqDiff, Nat.reduceLeDiff, Nat.reduceAdd, Nat.reduceSub, Nat.reduceMul, Int.reduceBEq, Int.reduceBNe, Int.reduceLT, Int.reduceLE, Int.reduceEq, reduceIte, reduceCtorEq, da, int, boolA, p8]
          · simp only [↓vp, vq0, vq1, vq2, vq3, vr0, vr1, vr2, vr3, vr4, vr5, vr6, vr7, vr8, vr9, vr10, vr11, vr12, vr13, vr14, vr15, vr16, vr17, vr18, vr19, vr20, vr21, vr22, vr23, vr24, vr25, vr26, vr27, vr28, vr29, vr30, vr31, vr32, vr33, vr34, opS, fpS, okP, pack, nAl, allocA, shId, leaves, fillA, fillR, splice, Nat.reduceLT, Nat.reduceEqDiff, Nat.reduceLeDiff, Nat.reduceAdd, Nat.reduceSub, Nat.reduceMul, Int.reduceBEq, Int.reduceBNe, Int.reduceLT, Int.reduceLE, Int.reduceEq, reduceIte, reduceCtorEq, da, int, boolA]
          · simp only [↓vp, vq0, vq1, vq2, vq3, vr0, vr1, vr2, vr3, vr4, vr5, vr6, vr7, vr8, vr9, vr10, vr11, vr12, vr13, vr14, vr15, vr16, vr17, vr18, vr19, vr20, vr21, vr22, vr23, vr24, vr25, vr26, vr27, vr28, vr29, vr30, vr31, vr32, vr33, vr34, opS, fpS, okP, pack, nAl, allocA, shId, leaves, fillA, fillR, splice, Nat.reduceLT, Nat.reduceEqDiff, Nat.reduceLeDiff, Nat.reduceAdd, Nat.reduceSub, Nat.reduceMul, Int.reduceBEq, Int.reduceBNe, Int.reduceLT, Int.reduceLE, Int.reduceEq, reduceIte, reduceCtorEq, da, int, boolA, p10, List.length_append]
        · simp
        · simpa using h8
        all_goals simp only [↓vp, vq0, vq1, vq2, vq3, vr0, vr1, vr2, vr3, vr4, vr5, vr6, vr7, vr8, vr9, vr10, vr11, vr12, vr13, vr14, vr15, vr16, vr17, vr18, vr19, vr20, vr21, vr22, vr23, vr24, vr25, vr26, vr27, vr28, vr29, vr30, vr31, vr32, vr33, vr34, opS, fpS, okP, pack, nAl, allocA, shId, leaves, fillA, fillR, splice, Nat.reduceLT, Nat.reduceEqDiff, Nat.reduceLeDiff, Nat.reduceAdd, Nat.reduceSub, Nat.reduceMul, Int.reduceBEq, Int.reduceBNe, Int.reduceLT, Int.reduceLE, Int.reduceEq, reduceIte, reduceCtorEq, da, int, boolA, q2, q8, q9, q10, Int.natCast_zero, Int.ofNat_zero]
    · rw [upM, if_neg hk] at hR
      exact done kids l0 S8 S9 K f (by omega) (by rw [hR]; simp) h8 h9 q2 q8 q9
theorem leaves_len (items : List ItemM) (many : Nat) (hm : 1 ≤ many) : ∀ (d at_ next : Nat), (leavesM items many d at_ next).1.length = (leavesM items many d at_ next).2.length ∧ (leavesM items many d at_ next).1.length ≤ d ∧ (0 < d → at_ = 0 → 0 < (leavesM items many d at_ next).1.length)
  | 0, at_, next => by simp [leavesM]
  | d + 1, at_, next => by
    rw [leavesM]
    obtain ⟨g1, g2, _⟩ := leaves_len items many hm d (at_ + many) (next + 1)
    split
    · simp [g1]; omega
    · rename_i h
      simp
      omega
theorem s26g (items : List ItemM) (hi : items.length ≤ 60) (many fan : Nat) (hm : 1 ≤ many ∧ many ≤ 20) (hf : 2 ≤ fan ∧ fan ≤ 20) (H : Heap) :
    callL ft (.fn (.func 26) [] []) [encI items, int many, int fan] H = some (.tup [encL (madeM items many fan).1, int (madeM items many fan).2], H) := by
  refine call_p (as' := [encI items, int many, int fan]) rfl rfl (by simp) ?_
  unfold c26 r26
  simp only [↓vp, vq0, vq1, vq2, vq3, vr0, vr1, vr2, vr3, vr4, vr5, vr6, vr7, vr8, vr9, vr10, vr11, vr12, vr13, vr14, vr15, vr16, vr17, vr18, vr19, vr20, vr21, vr22, vr23, vr24, vr25, vr26, vr27, vr28, vr29, vr30, vr31, vr32, vr33, vr34, opS, fpS, okP, pack, nAl, allocA, shId, leaves, fillA, fillR, splice, Nat.reduceLT, Nat.reduceEqDiff, Nat.reduceLeDiff, Nat.reduceAdd, Nat.reduceSub, Nat.reduceMul, Int.reduceBEq, Int.reduceBNe, Int.reduceLT, Int.reduceLE, Int.reduceEq, reduceIte, reduceCtorEq, da, int, boolA]
  obtain ⟨g1, g2, g3⟩ := leaves_len items many hm.1 (items.length + 1) 0 2
  have g3 := g3 (by omega) rfl
  refine l26b items hi many hm fan (leavesM items many (items.length + 1) 0 2) (fun f' K S8 S9 r8 r9 p2 p8 p9 p10 => ?_) (items.length + 1) 0 [] [] (.sc (.slice none 0 0)) (.sc (.slice none 0 0)) _ _ (by omega) (by omega) rfl (by simp) (by simp; omega) (by simp) (.inl ⟨rfl, rfl⟩) (.inl ⟨rfl, rfl⟩) ?_ ?_ ?_ ?_ ?_ ?_ ?_
  · simp only [↓vp, vq0, vq1, vq2, vq3, vr0, vr1, vr2, vr3, vr4, vr5, vr6, vr7, vr8, vr9, vr10, vr11, vr12, vr13, vr14, vr15, vr16, vr17, vr18, vr19, vr20, vr21, vr22, vr23, vr24, vr25, vr26, vr27, vr28, vr29, vr30, vr31, vr32, vr33, vr34, opS, fpS, okP, pack, nAl, allocA, shId, leaves, fillA, fillR, splice, Nat.reduceLT, Nat.reduceEqDiff, Nat.reduceLeDiff, Nat.reduceAdd, Nat.reduceSub, Nat.reduceMul, Int.reduceBEq, Int.reduceBNe, Int.reduceLT, Int.reduceLE, Int.reduceEq, reduceIte, reduceCtorEq, da, int, boolA]
    refine l26d fan hf (madeM items many fan) (fun f' K S8 S9 k r8 r9 hk p8 p9 => ?_) 100 _ _ S8 S9 K _ (by omega) (by omega) (by omega) (by omega) rfl r8 r9 p2 p8 p9 p10
    unfold c26R7
    obtain ⟨K', hK'⟩ := frz_rep (L := []) (by rw [hx_nil]; exact r8) 21
    rcases r9 with ⟨_, h⟩ | ⟨id, rfl, h9⟩
    · cases h
    · have o9 := get_old h9
      simp only [↓vp, vq0, vq1, vq2, vq3, vr0, vr1, vr2, vr3, vr4, vr5, vr6, vr7, vr8, vr9, vr10, vr11, vr12, vr13, vr14, vr15, vr16, vr17, vr18, vr19, vr20, vr21, vr22, vr23, vr24, vr25, vr26, vr27, vr28, vr29, vr30, vr31, vr32, vr33, vr34, opS, fpS, okP, pack, nAl, allocA, shId, leaves, fillA, fillR, splice, Nat.reduceLT, Nat.reduceEqDiff, Nat.reduceLeDiff, Nat.reduceAdd, Nat.reduceSub, Nat.reduceMul, Int.reduceBEq, Int.reduceBNe, Int.reduceLT, Int.reduceLE, Int.reduceEq, reduceIte, reduceCtorEq, da, int, boolA, RetP_go, resT, resC, resN, retV1, retV2, retV3, retV0, frzFZ, takeM, Option.some.injEq, p8, p9, o9, ias, rsz, hK', Int.toNat_zero, Int.natCast_one, Int.ofNat_one, Int.cast_ofNat_Int]
      rw [hk]
      rfl
  all_goals first | rfl | (simp only [↓vp, vq0, vq1, vq2, vq3, vr0, vr1, vr2, vr3, vr4, vr5, vr6, vr7, vr8, vr9, vr10, vr11, vr12, vr13, vr14, vr15, vr16, vr17, vr18, vr19, vr20, vr21, vr22, vr23, vr24, vr25, vr26, vr27, vr28, vr29, vr30, vr31, vr32, vr33, vr34, opS, fpS, okP, pack, nAl, allocA, shId, leaves, fillA, fillR, splice, Nat.reduceLT, Nat.reduceEqDiff, Nat.reduceLeDiff, Nat.reduceAdd, Nat.reduceSub, Nat.reduceMul, Int.reduceBEq, Int.reduceBNe, Int.reduceLT, Int.reduceLE, Int.reduceEq, reduceIte, reduceCtorEq, da, int, boolA]; done)
end Go.VI

set_option linter.unusedVariables false
set_option linter.unusedSimpArgs false
namespace Go.VI
def RL (o : Nat) (l : List NamedM) : Prop := ∀ (i : Nat) (x : NamedM), l[i]? = some x → x.ref = ((o + i : Nat) : Int)
theorem find_RL : ∀ (l : List NamedM) (o i : Nat) (x : NamedM), RL o l → l[i]? = some x → l.find? (fun y => y.ref == ((o + i : Nat) : Int)) = some x
  | [], _, _, _, _, h => by simp at h
  | y :: l, o, 0, x, hr, h => by
    cases h
    have := hr 0 y rfl
    rw [List.find?_cons_of_pos]
    simp [this]
  | y :: l, o, i + 1, x, hr, h => by
    have h0 := hr 0 y rfl
    rw [List.find?_cons_of_neg (by simp [h0]; omega)]
    have := find_RL l (o + 1) i x (fun j z hz => by
      have := hr (j + 1) z hz
      rw [this]; congr 1; omega) h
    rwa [show o + 1 + i = o + (i + 1) by omega] at this
theorem node_RL {l : List NamedM} {o i : Nat} {x : NamedM} (hr : RL o l) (h : l[i]? = some x) (more : List NamedM) : nodeM (l ++ more) ((o + i : Nat) : Int) = (x.n, 0) := by
  unfold nodeM
  rw [List.find?_append, find_RL l o i x hr h]
  rfl
theorem RL_snoc {l : List NamedM} {o : Nat} (hr : RL o l) {x : NamedM} (hx : x.ref = ((o + l.length : Nat) : Int)) : RL o (l ++ [x]) := fun i y hy => by
  by_cases h : i < l.length
  · rw [List.getElem?_append_left h] at hy
    exact hr i y hy
  · rw [List.getElem?_append_right (by omega)] at hy
    have h0 : i - l.length = 0 := by
      rcases Nat.eq_zero_or_pos (i - l.length) with h0 | h0
      · exact h0
      · rw [List.getElem?_eq_none (by simp only [List.length_singleton]; omega)] at hy; cases hy
    rw [h0] at hy
    cases hy
    rw [hx]
    congr 1
    omega
theorem ks_of {p : PlaceM} : ∀ {l : List Bytes} {o : Option Bytes}, Rise l → (∀ x ∈ l, bndM p x = true) → (∀ y, o = some y → ∀ x ∈ l, cmpB y x < 0) → ksM p o l = true
  | [], _, _, _, _ => rfl
  | x :: l, o, hr, hb, ho => by
    obtain ⟨h1, h2⟩ := List.pairwise_cons.1 hr
    simp only [ksM, Bool.and_eq_true]
    refine ⟨⟨hb x List.mem_cons_self, ?_⟩, ks_of h2 (fun y hy => hb y (List.mem_cons_of_mem _ hy)) fun y hy z hz => ?_⟩
    · cases o with
      | none => rfl
      | some y => simpa using ho y rfl x List.mem_cons_self
    · cases hy
      exact h1 z hz
theorem rise_map {l : List ItemM} (h : RiseI l) : Rise (l.map (·.key)) := List.pairwise_map.2 h
def Sub (l : List NamedM) (h : Nat) (ref : Int) (its : List ItemM) (refs : List Int) : Prop :=
  ∀ (d : Nat) (p : PlaceM) (w : WM), p.ref = ref → 1 ≤ p.deep → p.deep + d = 13 → h ≤ d → (p.deep = 1 ∨ its ≠ []) → (∀ x ∈ its, bndM p x.key = true) → (∀ r ∈ refs, r ∉ w.refs) → (w.depth = 0 ∨ w.depth = p.deep + h - 1) →
    visitM l d p w = (0, ⟨w.items ++ its, w.refs ++ refs, p.deep + h - 1⟩)
theorem visit_ok {l : List NamedM} {d : Nat} {p : PlaceM} {w : WM} {n : NodeM} (hd : p.deep ≤ 12) (hn : nodeM l p.ref = (n, 0)) (hr : p.ref ∉ w.refs) (hf : formM w.depth p n = true) :
    visitM l (d + 1) p w = goM (visitM l d) p n (List.range n.kids.length) ⟨if n.leaf then w.items ++ n.items else w.items, w.refs ++ [p.ref], if n.leaf then p.deep else w.depth⟩ := by
  have e : nodeW l p w = (n, 0, ⟨if n.leaf then w.items ++ n.items else w.items, w.refs ++ [p.ref], if n.leaf then p.deep else w.depth⟩) := by
    unfold nodeW
    rw [if_neg (by omega), hn]
    have hc : w.refs.contains p.ref = false := by simpa using hr
    simp [hf, hr]
  rw [visitM, e]
  simp
theorem Sub_leaf {l : List NamedM} {ref : Int} {its : List ItemM} (hn : nodeM l ref = (⟨true, its, []⟩, 0)) (hr : RiseI its) : Sub l 1 ref its [ref] := by
  intro d p w hp h1 h13 hd he hb hnr hw
  obtain ⟨d, rfl⟩ : ∃ e, d = e + 1 := ⟨d - 1, by omega⟩
  subst hp
  rw [visit_ok (n := ⟨true, its, []⟩) (by omega) hn (hnr _ List.mem_cons_self) ?_]
  · show goM _ _ _ [] _ = _
    rw [goM]
    simp
  · unfold formM
    have hk : ksM p none (keysM ⟨true, its, []⟩) = true := ks_of (by simpa [keysM] using rise_map hr) (fun x hx => by
      obtain ⟨y, hy, rfl⟩ := List.mem_map.1 (by simpa [keysM] using hx)
      exact hb y hy) (fun y hy => by cases hy)
    rw [hk]
    have e1 : (!((its.length : Int) == 0) || p.deep == 1) = true := by
      rcases he with he | he
      · simp [he]
      · have : its.length ≠ 0 := fun h => he (List.eq_nil_of_length_eq_zero h)
        simp [this]
    have e2 : (decide (0 < w.depth) && w.depth != p.deep) = false := by
      rcases hw with hw | hw
      · simp [hw]
      · have : w.depth = p.deep := by omega
        simp [this]
    simp [e1, e2]
theorem go_sub {l : List NamedM} {h d : Nat} {p : PlaceM} {n : NodeM} {its : List (List ItemM)} {rfs : List (List Int)} (hd1 : 1 ≤ p.deep) (hd : p.deep + 1 + d = 13) (hh : h ≤ d) (li : its.length = n.kids.length) (lr : rfs.length = n.kids.length)
    (hs : ∀ (k : Nat) (x : List ItemM) (r : List Int), its[k]? = some x → rfs[k]? = some r → Sub l h (kidM p n k).ref x r) (hne : ∀ x ∈ its, x ≠ []) (hb : ∀ (k : Nat) (x : List ItemM), its[k]? = some x → ∀ y ∈ x, bndM (kidM p n k) y.key = true) : ∀ (j k : Nat) (w : WM), k + j = n.kids.length →
    (rfs.drop k).flatten.Nodup → (∀ r ∈ (rfs.drop k).flatten, r ∉ w.refs) → (w.depth = 0 ∨ w.depth = p.deep + h) →
    goM (visitM l d) p n (List.range' k j) w = (0, ⟨w.items ++ (its.drop k).flatten, w.refs ++ (rfs.drop k).flatten, if j = 0 then w.depth else p.deep + h⟩)
  | 0, k, w, hk, _, _, _ => by
    rw [List.drop_eq_nil_of_le (by omega), List.drop_eq_nil_of_le (by omega)]
    simp [goM]
  | j + 1, k, w, hk, hnd, hnr, hw => by
    have h1 : k < its.length := by omega
    have h2 : k < rfs.length := by omega
    have e1 := List.getElem?_eq_getElem h1
    have e2 := List.getElem?_eq_getElem h2
    rw [List.drop_eq_getElem_cons h2, List.flatten_cons] at hnd hnr
    have hv := hs k _ _ e1 e2 d (kidM p n k) w rfl (by show 1 ≤ p.deep + 1; omega) hd hh (.inr (hne _ (List.getElem_mem h1))) (hb k _ e1) (fun r hr => hnr r (List.mem_append_left _ hr)) (by
      rcases hw with hw | hw
      · exact .inl hw
      · right
        show w.depth = p.deep + 1 + h - 1
        omega)
    have hdp : (kidM p n k).deep + h - 1 = p.deep + h := by show p.deep + 1 + h - 1 = _; omega
    rw [hdp] at hv
    rw [List.range'_succ, goM_ok (by rw [hv]), hv]
    obtain ⟨n1, n2, n3⟩ := List.nodup_append.1 hnd
    have ih := go_sub hd1 hd hh li lr hs hne hb j (k + 1) ⟨w.items ++ its[k], w.refs ++ rfs[k], p.deep + h⟩ (by omega) n2 (fun r hr hm => by
      rcases List.mem_append.1 hm with hm | hm
      · exact hnr r (List.mem_append_right _ hr) hm
      · exact n3 r hm r hr rfl) (.inr rfl)
    simp only
    rw [ih, List.drop_eq_getElem_cons h1, List.drop_eq_getElem_cons h2]
    simp only [List.flatten_cons, List.append_assoc, Nat.add_one_ne_zero, if_false, ite_self]
theorem Sub_branch {l : List NamedM} {h : Nat} {ref : Int} {kids : List KidM} {its : List (List ItemM)} {rfs : List (List Int)} (hn : nodeM l ref = (⟨false, [], kids⟩, 0)) (h2 : 2 ≤ kids.length) (li : its.length = kids.length) (lr : rfs.length = kids.length)
    (hs : ∀ (k : Nat) (kid : KidM) (x : List ItemM) (r : List Int), kids[k]? = some kid → its[k]? = some x → rfs[k]? = some r → Sub l h kid.ref x r)
    (hkey : ∀ (k : Nat) (kid : KidM) (x : List ItemM), 0 < k → kids[k]? = some kid → its[k]? = some x → ∃ y ys, x = y :: ys ∧ y.key = kid.key) (hne : ∀ x ∈ its, x ≠ []) (hr : RiseI its.flatten) (hnd : (ref :: rfs.flatten).Nodup) :
    Sub l (h + 1) ref its.flatten (ref :: rfs.flatten) := by
  intro d p w hp h1 h13 hd he hb hnr hw
  obtain ⟨d, rfl⟩ : ∃ e, d = e + 1 := ⟨d - 1, by omega⟩
  subst hp
  obtain ⟨r1, r2⟩ := List.pairwise_flatten.1 hr
  have r2 := List.pairwise_iff_getElem.1 r2
  have bk : ∀ (k : Nat) (x : List ItemM), its[k]? = some x → ∀ y ∈ x, bndM (kidM p ⟨false, [], kids⟩ k) y.key = true := by
    intro k x hx y hy
    obtain ⟨hk, e⟩ := List.getElem?_eq_some_iff.1 hx
    have hk' : k < kids.length := by omega
    have hyb := bnd_iff.1 (hb y (List.mem_flatten.2 ⟨x, by rw [← e]; exact List.getElem_mem hk, hy⟩))
    rw [bnd_iff]
    refine ⟨fun hh => ?_, fun hh => ?_⟩
    · by_cases h0 : 0 < k
      · rw [(kid_low (n := ⟨false, [], kids⟩) hk' h0).2]
        obtain ⟨z, zs, e1, e2⟩ := hkey k _ x h0 (List.getElem?_eq_getElem hk') hx
        show cmpB kids[k].key y.key ≤ 0
        rw [← e2]
        subst e1
        rcases List.mem_cons.1 hy with rfl | hy
        · rw [cmpB_refl]; exact Int.le_refl _
        · have := r1 (z :: zs) (by rw [← e]; exact List.getElem_mem hk)
          exact Int.le_of_lt ((List.pairwise_cons.1 this).1 y hy)
      · have : k = 0 := by omega
        subst this
        rw [kid_low0.2]
        exact hyb.1 (by rwa [kid_low0.1] at hh)
    · by_cases h0 : k + 1 < kids.length
      · rw [(kid_high (n := ⟨false, [], kids⟩) h0).2]
        have hk1 : k + 1 < its.length := by omega
        obtain ⟨z, zs, e1, e2⟩ := hkey (k + 1) _ _ (by omega) (List.getElem?_eq_getElem h0) (List.getElem?_eq_getElem hk1)
        show cmpB y.key kids[k + 1].key < 0
        rw [← e2]
        exact r2 k (k + 1) hk hk1 (by omega) y (by rw [e]; exact hy) z (by rw [e1]; exact List.mem_cons_self)
      · rw [(kid_high0 (n := ⟨false, [], kids⟩) h0).2]
        exact hyb.2 (by rwa [(kid_high0 (n := ⟨false, [], kids⟩) h0).1] at hh)
  have hrk : Rise ((kids.drop 1).map (·.key)) := by
    refine List.pairwise_iff_getElem.2 fun i j hi hj hij => ?_
    simp at hi hj
    obtain ⟨z, zs, e1, e2⟩ := hkey (1 + i) kids[1 + i] its[1 + i] (by omega) (List.getElem?_eq_getElem (by omega)) (List.getElem?_eq_getElem (by omega))
    obtain ⟨z', zs', e1', e2'⟩ := hkey (1 + j) kids[1 + j] its[1 + j] (by omega) (List.getElem?_eq_getElem (by omega)) (List.getElem?_eq_getElem (by omega))
    have := r2 (1 + i) (1 + j) (by omega) (by omega) (by omega) z (by rw [e1]; exact List.mem_cons_self) z' (by rw [e1']; exact List.mem_cons_self)
    simp only [List.getElem_map, List.getElem_drop]
    rw [← e2, ← e2']
    exact this
  rw [visit_ok (n := ⟨false, [], kids⟩) (by omega) hn (hnr _ List.mem_cons_self) ?_]
  · have hnd' := List.nodup_cons.1 hnd
    have g := go_sub (l := l) (h := h) (d := d) (p := p) (n := ⟨false, [], kids⟩) (its := its) (rfs := rfs) h1 (by omega) (by omega) li lr (fun k x r hx hr' => by
        obtain ⟨hk, _⟩ := List.getElem?_eq_some_iff.1 hx
        have hk' : k < kids.length := by omega
        have := hs k _ x r (List.getElem?_eq_getElem hk') hx hr'
        have e : (kidM p ⟨false, [], kids⟩ k).ref = kids[k].ref := by simp [kidM, hk']
        rwa [e]) hne bk kids.length 0 ⟨w.items, w.refs ++ [p.ref], w.depth⟩ (by simp) (by simpa using hnd'.2) (fun r hr' hm => by
        rcases List.mem_append.1 hm with hm | hm
        · exact hnr r (List.mem_cons_of_mem _ (by simpa using hr')) hm
        · rw [List.mem_singleton] at hm
          subst hm
          exact hnd'.1 (by simpa using hr')) (by
        rcases hw with hw | hw
        · exact .inl hw
        · right
          show w.depth = p.deep + h
          omega)
    have h0 : ¬ kids.length = 0 := by omega
    simp only [Bool.false_eq_true, if_false, List.range_eq_range'] at g ⊢
    rw [g]
    simp [h0]
    omega
  · unfold formM
    have hk : ksM p none (keysM ⟨false, [], kids⟩) = true := ks_of (by simpa [keysM] using hrk) (fun x hx => by
      obtain ⟨kid, hkid, rfl⟩ := List.mem_map.1 (show x ∈ (kids.drop 1).map (·.key) by simpa [keysM] using hx)
      obtain ⟨i, hi, e⟩ := List.mem_iff_getElem.1 hkid
      rw [List.getElem_drop] at e
      simp at hi
      obtain ⟨z, zs, e1, e2⟩ := hkey (1 + i) kid its[1 + i] (by omega) (by rw [List.getElem?_eq_getElem (by omega), e]) (List.getElem?_eq_getElem (by omega))
      rw [← e2]
      exact hb z (List.mem_flatten.2 ⟨_, List.getElem_mem (show 1 + i < its.length by omega), by rw [e1]; exact List.mem_cons_self⟩)) (fun y hy => by cases hy)
    rw [hk]
    have : ¬ ((kids.length : Int) < 2) := by omega
    simp [this]
end Go.VI

set_option linter.unusedVariables false
set_option linter.unusedSimpArgs false
namespace Go.VI
/-- A level: its places stand for parts of a tree. -/
structure Lv (l : List NamedM) (h : Nat) (kids : List KidM) (its : List (List ItemM)) (rfs : List (List Int)) : Prop where
  li : its.length = kids.length
  lr : rfs.length = kids.length
  sub : ∀ (k : Nat) (kid : KidM) (x : List ItemM) (r : List Int), kids[k]? = some kid → its[k]? = some x → rfs[k]? = some r → ∀ more, Sub (l ++ more) h kid.ref x r
  key : ∀ (k : Nat) (kid : KidM) (x : List ItemM), kids[k]? = some kid → its[k]? = some x → ∃ y ys, x = y :: ys ∧ y.key = kid.key
theorem Lv.nil (l : List NamedM) (h : Nat) : Lv l h [] [] [] := ⟨rfl, rfl, fun k kid x r hk => by simp at hk, fun k kid x hk => by simp at hk⟩
theorem snoc_get {α : Type} {l : List α} {a x : α} {k : Nat} (h : (l ++ [a])[k]? = some x) : (k < l.length ∧ l[k]? = some x) ∨ (k = l.length ∧ x = a) := by
  by_cases hk : k < l.length
  · rw [List.getElem?_append_left hk] at h
    exact .inl ⟨hk, h⟩
  · rw [List.getElem?_append_right (by omega)] at h
    have h0 : k - l.length = 0 := by
      rcases Nat.eq_zero_or_pos (k - l.length) with h0 | h0
      · exact h0
      · rw [List.getElem?_eq_none (by simp only [List.length_singleton]; omega)] at h; cases h
    rw [h0] at h
    cases h
    exact .inr ⟨by omega, rfl⟩
theorem Lv.snoc {l : List NamedM} {h : Nat} {kids : List KidM} {its : List (List ItemM)} {rfs : List (List Int)} (L : Lv l h kids its rfs) (nd : NamedM) {kid : KidM} {x : List ItemM} {r : List Int} (hs : ∀ more, Sub (l ++ [nd] ++ more) h kid.ref x r) (hk : ∃ y ys, x = y :: ys ∧ y.key = kid.key) :
    Lv (l ++ [nd]) h (kids ++ [kid]) (its ++ [x]) (rfs ++ [r]) := by
  refine ⟨by simp [L.li], by simp [L.lr], fun k kid' x' r' h1 h2 h3 more => ?_, fun k kid' x' h1 h2 => ?_⟩
  · rcases snoc_get h1 with ⟨a, b⟩ | ⟨a, b⟩
    · rcases snoc_get h2 with ⟨a2, b2⟩ | ⟨a2, b2⟩
      · rcases snoc_get h3 with ⟨a3, b3⟩ | ⟨a3, b3⟩
        · have := L.sub k kid' x' r' b b2 b3 ([nd] ++ more)
          rwa [← List.append_assoc] at this
        · have := L.lr; omega
      · have := L.li; omega
    · rcases snoc_get h2 with ⟨a2, b2⟩ | ⟨a2, b2⟩
      · have := L.li; omega
      · rcases snoc_get h3 with ⟨a3, b3⟩ | ⟨a3, b3⟩
        · have := L.lr; omega
        · subst b b2 b3
          exact hs more
  · rcases snoc_get h1 with ⟨a, b⟩ | ⟨a, b⟩
    · rcases snoc_get h2 with ⟨a2, b2⟩ | ⟨a2, b2⟩
      · exact L.key k kid' x' b b2
      · have := L.li; omega
    · rcases snoc_get h2 with ⟨a2, b2⟩ | ⟨a2, b2⟩
      · have := L.li; omega
      · subst b b2
        exact hk
theorem nodup_mid {A B : List Int} {x : Int} (hx : x ∉ A ++ B) (h : (A ++ B).Nodup) : (A ++ x :: B).Nodup := by
  obtain ⟨h1, h2, h3⟩ := List.nodup_append.1 h
  refine List.nodup_append.2 ⟨h1, List.nodup_cons.2 ⟨fun hb => hx (List.mem_append_right _ hb), h2⟩, fun a ha b hb => ?_⟩
  rcases List.mem_cons.1 hb with rfl | hb
  · exact fun e => hx (List.mem_append_left _ (e ▸ ha))
  · exact h3 a ha b hb
/-- What is kept of numbers. -/
structure Nm (l : List NamedM) (R : List Int) : Prop where
  nd : R.Nodup
  lt : ∀ r ∈ R, r < ((2 + l.length : Nat) : Int)
  cnt : R.length = l.length
theorem Nm.ins {l : List NamedM} {A B : List Int} (h : Nm l (A ++ B)) (nd : NamedM) : Nm (l ++ [nd]) (A ++ ((2 + l.length : Nat) : Int) :: B) := by
  have hn : ((2 + l.length : Nat) : Int) ∉ A ++ B := fun hm => by
    have := h.lt _ hm
    omega
  refine ⟨nodup_mid hn h.nd, fun r hr => ?_, ?_⟩
  · have : r = ((2 + l.length : Nat) : Int) ∨ r ∈ A ++ B := by
      rcases List.mem_append.1 hr with q | q
      · exact .inr (List.mem_append_left _ q)
      · rcases List.mem_cons.1 q with q | q
        · exact .inl q
        · exact .inr (List.mem_append_right _ q)
    simp only [List.length_append, List.length_singleton]
    rcases this with q | q
    · omega
    · have := h.lt r q
      omega
  · have := h.cnt
    simp only [List.length_append, List.length_cons, List.length_nil] at this ⊢
    omega
theorem cut_split {α : Type} (l : List α) {a b : Nat} (h : a ≤ b) : l.drop a = (l.drop a).take (b - a) ++ l.drop b := by
  have : l.drop b = (l.drop a).drop (b - a) := by rw [List.drop_drop, show a + (b - a) = b by omega]
  rw [this, List.take_append_drop]
theorem mid_rise {A B C : List ItemM} (h : RiseI (A ++ (B ++ C))) : RiseI B := (List.pairwise_append.1 (List.pairwise_append.1 h).2.1).1
theorem clear_get {g : List KidM} {k : Nat} {kid : KidM} (h : (clearK g)[k]? = some kid) : ∃ kid', g[k]? = some kid' ∧ kid'.ref = kid.ref ∧ (0 < k → kid' = kid) := by
  cases g with
  | nil => simp [clearK] at h
  | cons x g =>
    cases k with
    | zero => cases h; exact ⟨x, rfl, rfl, fun h => absurd h (by omega)⟩
    | succ k => exact ⟨kid, h, rfl, fun _ => rfl⟩
theorem clear_len (g : List KidM) : (clearK g).length = g.length := by cases g <;> rfl
theorem level_go {l : List NamedM} {h : Nat} {kids : List KidM} {its : List (List ItemM)} {rfs : List (List Int)} (L : Lv l h kids its rfs) {fan : Nat} (hf : 2 ≤ fan) (hr : RiseI its.flatten) : ∀ (d at_ : Nat) (acc : List NamedM) (kacc : List KidM) (ia : List (List ItemM)) (ra : List (List Int)),
    (at_ = kids.length ∨ at_ + 2 ≤ kids.length) → kids.length ≤ at_ + d → RL 2 (l ++ acc) → Lv (l ++ acc) (h + 1) kacc ia ra → ia.flatten ++ (its.drop at_).flatten = its.flatten → Nm (l ++ acc) (ra.flatten ++ (rfs.drop at_).flatten) →
    ∃ ia' ra', RL 2 (l ++ (acc ++ (levelM kids fan d at_ (2 + (l ++ acc).length)).1)) ∧ Lv (l ++ (acc ++ (levelM kids fan d at_ (2 + (l ++ acc).length)).1)) (h + 1) (kacc ++ (levelM kids fan d at_ (2 + (l ++ acc).length)).2) ia' ra' ∧ ia'.flatten = its.flatten ∧
      Nm (l ++ (acc ++ (levelM kids fan d at_ (2 + (l ++ acc).length)).1)) ra'.flatten
  | 0, at_, acc, kacc, ia, ra, ha, hd, hrl, hL, hi, hn => by
    rw [List.drop_eq_nil_of_le (by have := L.li; omega), List.flatten_nil, List.append_nil] at hi
    rw [List.drop_eq_nil_of_le (by have := L.lr; omega), List.flatten_nil, List.append_nil] at hn
    exact ⟨ia, ra, by simpa [levelM] using hrl, by simpa [levelM] using hL, hi, by simpa [levelM] using hn⟩
  | d + 1, at_, acc, kacc, ia, ra, ha, hd, hrl, hL, hi, hn => by
    have li := L.li
    have lr := L.lr
    by_cases hc : at_ < kids.length
    · have h2 : at_ + 2 ≤ kids.length := by omega
      rw [levelM, if_pos hc]
      obtain ⟨T, hT, t1, t2, t3⟩ : ∃ T, cutTo kids.length at_ fan = T ∧ at_ + 2 ≤ T ∧ T ≤ kids.length ∧ (T = kids.length ∨ T + 2 ≤ kids.length) := by
        refine ⟨_, rfl, ?_⟩
        unfold cutTo
        split <;> omega
      rw [hT]
      have s1 := cut_split kids (show at_ ≤ T by omega)
      have s2 := cut_split its (show at_ ≤ T by omega)
      have s3 := cut_split rfs (show at_ ≤ T by omega)
      have gk : ∀ k kid, ((kids.drop at_).take (T - at_))[k]? = some kid → kids[at_ + k]? = some kid := fun k kid hk => by
        rw [List.getElem?_take] at hk
        split at hk
        · rwa [List.getElem?_drop] at hk
        · cases hk
      have gi : ∀ k x, ((its.drop at_).take (T - at_))[k]? = some x → its[at_ + k]? = some x := fun k kid hk => by
        rw [List.getElem?_take] at hk
        split at hk
        · rwa [List.getElem?_drop] at hk
        · cases hk
      have gr : ∀ k r, ((rfs.drop at_).take (T - at_))[k]? = some r → rfs[at_ + k]? = some r := fun k kid hk => by
        rw [List.getElem?_take] at hk
        split at hk
        · rwa [List.getElem?_drop] at hk
        · cases hk
      have lg : ((kids.drop at_).take (T - at_)).length = T - at_ := by simp; omega
      have lgi : ((its.drop at_).take (T - at_)).length = T - at_ := by simp; omega
      have lgr : ((rfs.drop at_).take (T - at_)).length = T - at_ := by simp; omega
      rw [s2, List.flatten_append] at hi
      rw [s3, List.flatten_append] at hn
      have hrg : RiseI ((its.drop at_).take (T - at_)).flatten := by
        rw [← hi] at hr
        exact mid_rise hr
      generalize (kids.drop at_).take (T - at_) = g at *
      generalize (its.drop at_).take (T - at_) = ig at *
      generalize (rfs.drop at_).take (T - at_) = rg at *
      have hrl' : RL 2 (l ++ (acc ++ [brN g (2 + (l ++ acc).length : Nat)])) := by
        rw [← List.append_assoc]
        exact RL_snoc hrl rfl
      have hn' := hn.ins (brN g (2 + (l ++ acc).length : Nat))
      have hkey0 : ∃ y ys, ig.flatten = y :: ys ∧ y.key = (brK g (2 + (l ++ acc).length : Nat)).key := by
        obtain ⟨k0, gs, hg⟩ : ∃ k0 gs, g = k0 :: gs := by
          cases g with
          | nil => simp at lg; omega
          | cons a b => exact ⟨a, b, rfl⟩
        obtain ⟨i0, is, hig⟩ : ∃ i0 is, ig = i0 :: is := by
          cases ig with
          | nil => simp at lgi; omega
          | cons a b => exact ⟨a, b, rfl⟩
        obtain ⟨y, ys, e1, e2⟩ := L.key at_ k0 i0 (by have := gk 0 k0 (by rw [hg]; rfl); simpa using this) (by have := gi 0 i0 (by rw [hig]; rfl); simpa using this)
        exact ⟨y, ys ++ is.flatten, by rw [hig, e1]; rfl, by rw [e2, hg]; rfl⟩
      have hsub : ∀ more, Sub (l ++ acc ++ [brN g (2 + (l ++ acc).length : Nat)] ++ more) (h + 1) (brK g (2 + (l ++ acc).length : Nat)).ref ig.flatten (((2 + (l ++ acc).length : Nat) : Int) :: rg.flatten) := by
        intro more
        have hnode : nodeM (l ++ acc ++ [brN g (2 + (l ++ acc).length : Nat)] ++ more) ((2 + (l ++ acc).length : Nat) : Int) = (⟨false, [], clearK g⟩, 0) := by
          have hx : (l ++ acc ++ [brN g (2 + (l ++ acc).length : Nat)])[(l ++ acc).length]? = some (brN g (2 + (l ++ acc).length : Nat)) := by
            rw [List.getElem?_append_right (Nat.le_refl _)]
            simp
          have hq : RL 2 (l ++ acc ++ [brN g (2 + (l ++ acc).length : Nat)]) := RL_snoc hrl rfl
          exact node_RL hq hx more
        refine Sub_branch hnode (by rw [clear_len]; omega) (by rw [clear_len]; omega) (by rw [clear_len]; omega) (fun k kid x r h1 h2 h3 => ?_) (fun k kid x h0 h1 h2 => ?_) (fun x hx => ?_) hrg ?_
        · obtain ⟨kid', q1, q2, _⟩ := clear_get h1
          rw [← q2]
          have := L.sub (at_ + k) kid' x r (gk k kid' q1) (gi k x h2) (gr k r h3) (acc ++ [brN g (2 + (l ++ acc).length : Nat)] ++ more)
          simpa [List.append_assoc] using this
        · obtain ⟨kid', q1, _, q3⟩ := clear_get h1
          rw [q3 h0] at q1
          exact L.key (at_ + k) kid x (gk k kid q1) (gi k x h2)
        · obtain ⟨k, hk, e⟩ := List.mem_iff_getElem.1 hx
          have hx' := List.getElem?_eq_some_iff.2 ⟨hk, e⟩
          have hk' : k < g.length := by omega
          obtain ⟨y, ys, e1, _⟩ := L.key (at_ + k) g[k] x (gk k _ (List.getElem?_eq_getElem hk')) (gi k x hx')
          rw [e1]
          simp
        · have q := (List.nodup_append.1 hn'.nd).2.1
          rw [← List.cons_append] at q
          exact (List.nodup_append.1 q).1
      have ih := level_go L hf hr d T (acc ++ [brN g (2 + (l ++ acc).length : Nat)]) (kacc ++ [brK g (2 + (l ++ acc).length : Nat)]) (ia ++ [ig.flatten]) (ra ++ [((2 + (l ++ acc).length : Nat) : Int) :: rg.flatten]) t3 (by omega) hrl' (by
          rw [← List.append_assoc]
          exact hL.snoc _ hsub hkey0) (by rw [← hi]; simp) (by
          have e : (ra ++ [((2 + (l ++ acc).length : Nat) : Int) :: rg.flatten]).flatten ++ (rfs.drop T).flatten = ra.flatten ++ ((2 + (l ++ acc).length : Nat) : Int) :: (rg.flatten ++ (rfs.drop T).flatten) := by simp
          rw [e, ← List.append_assoc]
          exact hn')
      have en : 2 + (l ++ (acc ++ [brN g (2 + (l ++ acc).length : Nat)])).length = 2 + (l ++ acc).length + 1 := by simp; omega
      rw [en] at ih
      simpa [List.append_assoc] using ih
    · rw [levelM, if_neg hc]
      rw [List.drop_eq_nil_of_le (by omega), List.flatten_nil, List.append_nil] at hi
      rw [List.drop_eq_nil_of_le (by omega), List.flatten_nil, List.append_nil] at hn
      exact ⟨ia, ra, by simpa using hrl, by simpa using hL, hi, by simpa using hn⟩
end Go.VI

set_option linter.unusedVariables false
set_option linter.unusedSimpArgs false
set_option maxRecDepth 100000
namespace Go.VI
attribute [local congr] AW_congr OW_congr DW_congr NW_congr VW_congr GW_congr PW_congr KW_congr ite_congr' GV_congr CV_congr
theorem up_go {fan : Nat} (hf : 2 ≤ fan) : ∀ (F m : Nat) (kids : List KidM) (l : List NamedM) (its : List (List ItemM)) (rfs : List (List Int)) (h : Nat), kids.length ≤ F + 1 → 0 < kids.length → kids.length ≤ 2 ^ m → Lv l h kids its rfs → RL 2 l → RiseI its.flatten → Nm l rfs.flatten →
    ∃ e refs, e ≤ m ∧ Sub (l ++ (upM fan F kids (2 + l.length)).1) (h + e) (upM fan F kids (2 + l.length)).2 its.flatten refs ∧ refs.length = (l ++ (upM fan F kids (2 + l.length)).1).length := by
  have one : ∀ (m : Nat) (kids : List KidM) (l : List NamedM) (its : List (List ItemM)) (rfs : List (List Int)) (h : Nat), kids.length = 1 → Lv l h kids its rfs → Nm l rfs.flatten →
      ∃ e refs, e ≤ m ∧ Sub (l ++ []) (h + e) ((kids[0]?.map (·.ref)).getD 0) its.flatten refs ∧ refs.length = (l ++ []).length := by
    intro m kids l its rfs h hk L hn
    have li := L.li
    have lr := L.lr
    match kids, its, rfs, hk, li, lr with
    | [k], [x], [r], _, _, _ =>
      refine ⟨0, r, Nat.zero_le _, ?_, ?_⟩
      · have := L.sub 0 k x r rfl rfl rfl []
        simpa using this
      · have := hn.cnt
        simpa using this
  intro F
  induction F with
  | zero =>
    intro m kids l its rfs h hF h0 hm L hrl hr hn
    exact one m kids l its rfs h (by omega) L hn
  | succ F ih =>
    intro m kids l its rfs h hF h0 hm L hrl hr hn
    rw [upM]
    by_cases hk : 1 < kids.length
    · rw [if_pos hk]
      obtain ⟨g1, g2, g3⟩ := level_len kids fan hf kids.length 0 (2 + l.length) (by omega) (by omega)
      have g3 := g3 (by omega)
      obtain ⟨ia, ra, q1, q2, q3, q4⟩ := level_go L hf hr kids.length 0 [] [] [] [] (by omega) (by omega) (by simpa using hrl) (by simpa using Lv.nil l (h + 1)) (by simp) (by simpa using hn)
      simp only [List.append_nil, List.nil_append] at q1 q2 q4
      obtain ⟨m, rfl⟩ : ∃ k, m = k + 1 := by
        cases m with
        | zero => simp at hm; omega
        | succ k => exact ⟨k, rfl⟩
      have h2 : 2 ^ (m + 1) = 2 * 2 ^ m := by rw [Nat.pow_succ]; omega
      obtain ⟨e, refs, e1, e2, e3⟩ := ih m (levelM kids fan kids.length 0 (2 + l.length)).2 (l ++ (levelM kids fan kids.length 0 (2 + l.length)).1) ia ra (h + 1) (by omega) g3 (by omega) q2 q1 (by rw [q3]; exact hr) q4
      rw [q3] at e2
      have en : 2 + (l ++ (levelM kids fan kids.length 0 (2 + l.length)).1).length = 2 + l.length + (levelM kids fan kids.length 0 (2 + l.length)).1.length := by simp; omega
      rw [en] at e2 e3
      refine ⟨e + 1, refs, by omega, ?_, ?_⟩
      · have eh : h + (e + 1) = h + 1 + e := by omega
        rw [eh, ← List.append_assoc]
        exact e2
      · rw [← List.append_assoc]
        exact e3
    · rw [if_neg hk]
      exact one m kids l its rfs h (by omega) L hn
theorem leaves_go (items : List ItemM) (many : Nat) (hm : 1 ≤ many) (h0 : 0 < items.length) (hr : RiseI items) : ∀ (d at_ : Nat) (acc : List NamedM) (kacc : List KidM) (ia : List (List ItemM)) (ra : List (List Int)), items.length + 1 ≤ at_ + d → RL 2 acc → Lv acc 1 kacc ia ra → ia.flatten = items.take at_ → Nm acc ra.flatten →
    ∃ ia' ra', RL 2 (acc ++ (leavesM items many d at_ (2 + acc.length)).1) ∧ Lv (acc ++ (leavesM items many d at_ (2 + acc.length)).1) 1 (kacc ++ (leavesM items many d at_ (2 + acc.length)).2) ia' ra' ∧ ia'.flatten = items ∧ Nm (acc ++ (leavesM items many d at_ (2 + acc.length)).1) ra'.flatten
  | 0, at_, acc, kacc, ia, ra, hd, hrl, hL, hi, hn => by
    rw [List.take_of_length_le (by omega)] at hi
    exact ⟨ia, ra, by simpa [leavesM] using hrl, by simpa [leavesM] using hL, hi, by simpa [leavesM] using hn⟩
  | d + 1, at_, acc, kacc, ia, ra, hd, hrl, hL, hi, hn => by
    rw [leavesM]
    by_cases hc : at_ < items.length ∨ at_ = 0
    · have ha : at_ < items.length := by omega
      rw [if_pos hc]
      have hsplit : items.take at_ ++ (items.drop at_).take many = items.take (at_ + many) := by rw [List.take_add]
      have hrc : RiseI ((items.drop at_).take many) := by
        have e : items = items.take at_ ++ ((items.drop at_).take many ++ (items.drop at_).drop many) := by rw [List.take_append_drop, List.take_append_drop]
        rw [e] at hr
        exact mid_rise hr
      have hc0 : ∃ y ys, (items.drop at_).take many = y :: ys := by
        refine ⟨items[at_], (items.drop (at_ + 1)).take (many - 1), ?_⟩
        rw [List.drop_eq_getElem_cons ha, show many = (many - 1) + 1 by omega, List.take_succ_cons]
        simp
      generalize (items.drop at_).take many = c at *
      obtain ⟨y, ys, rfl⟩ := hc0
      have hx : (acc ++ [leafN (y :: ys) (2 + acc.length : Nat)])[acc.length]? = some (leafN (y :: ys) (2 + acc.length : Nat)) := by
        rw [List.getElem?_append_right (Nat.le_refl _)]
        simp
      have hq : RL 2 (acc ++ [leafN (y :: ys) (2 + acc.length : Nat)]) := RL_snoc hrl rfl
      have hn' := Nm.ins (l := acc) (A := ra.flatten) (B := []) (by simpa using hn) (leafN (y :: ys) (2 + acc.length : Nat))
      have ih := leaves_go items many hm h0 hr d (at_ + many) (acc ++ [leafN (y :: ys) (2 + acc.length : Nat)]) (kacc ++ [leafK (y :: ys) (2 + acc.length : Nat)]) (ia ++ [y :: ys]) (ra ++ [[((2 + acc.length : Nat) : Int)]]) (by omega) hq
        (hL.snoc _ (fun more => Sub_leaf (node_RL hq hx more) hrc) ⟨y, ys, rfl, rfl⟩) (by rw [List.flatten_append, hi]; simpa using hsplit) (by simpa using hn')
      have en : 2 + (acc ++ [leafN (y :: ys) (2 + acc.length : Nat)]).length = 2 + acc.length + 1 := by simp; omega
      rw [en] at ih
      simpa [List.append_assoc] using ih
    · rw [if_neg hc]
      rw [List.take_of_length_le (by omega)] at hi
      exact ⟨ia, ra, by simpa using hrl, by simpa using hL, hi, by simpa using hn⟩
theorem made_all (items : List ItemM) (hi : items.length ≤ 60) (many fan : Nat) (hm : 1 ≤ many) (hf : 2 ≤ fan) (hr : RiseI items) :
    (allM (madeM items many fan).1 (madeM items many fan).2).2 = 0 ∧ (allM (madeM items many fan).1 (madeM items many fan).2).1.items = items ∧ (allM (madeM items many fan).1 (madeM items many fan).2).1.refs.length = (madeM items many fan).1.length := by
  have key : ∀ (l : List NamedM) (root : Int) (h : Nat) (refs : List Int), h ≤ 12 → Sub l h root items refs → refs.length = l.length → (allM l root).2 = 0 ∧ (allM l root).1.items = items ∧ (allM l root).1.refs.length = l.length := fun l root h refs h1 h2 h3 => by
    have := h2 12 (root0 root) w0 rfl (Int.le_refl _) rfl h1 (.inl rfl) (fun x _ => by simp [bndM, root0]) (fun r _ hm => by cases hm) (.inl rfl)
    have e : allM l root = ((visitM l 12 (root0 root) w0).2, 0) := by unfold allM; rw [if_neg (by rw [this]; simp)]
    rw [e, this]
    exact ⟨rfl, by simp [w0], by simpa [w0] using h3⟩
  cases items with
  | nil =>
    have e : madeM [] many fan = ([leafN [] 2], 2) := by
      simp [madeM, leavesM, upM, leafK, leafN]
    rw [e]
    refine key _ _ 1 [2] (by omega) ?_ rfl
    exact Sub_leaf (by rfl) List.Pairwise.nil
  | cons x xs =>
    obtain ⟨ia, ra, q1, q2, q3, q4⟩ := leaves_go (x :: xs) many hm (by simp) hr ((x :: xs).length + 1) 0 [] [] [] [] (by omega) (fun i y h => by simp at h) (Lv.nil [] 1) rfl ⟨List.nodup_nil, (by intro r hr; cases hr), rfl⟩
    simp only [List.nil_append, List.length_nil, Nat.add_zero] at q1 q2 q4
    obtain ⟨g1, g2, g3⟩ := leaves_len (x :: xs) many hm ((x :: xs).length + 1) 0 2
    have g3 := g3 (by omega) rfl
    obtain ⟨e, refs, e1, e2, e3⟩ := up_go hf 100 6 _ _ ia ra 1 (by omega) (by omega) (by simp only [Nat.reducePow]; omega) q2 q1 (by rw [q3]; exact hr) q4
    rw [q3] at e2
    exact key _ _ (1 + e) refs (by omega) e2 e3
theorem okI_sub {l m : List ItemM} (h : okI l) (hs : ∀ x ∈ m, x ∈ l) (hl : m.length ≤ l.length) : okI m := ⟨Nat.lt_of_le_of_lt hl h.n, fun x hx => h.h x (hs x hx)⟩
theorem leaves_ok (items : List ItemM) (h : okI items) (many : Nat) : ∀ (d at_ next : Nat), (∀ x ∈ (leavesM items many d at_ next).1, okN x.n) ∧ ∀ k ∈ (leavesM items many d at_ next).2, okB k.key
  | 0, at_, next => by simp [leavesM]
  | d + 1, at_, next => by
    rw [leavesM]
    obtain ⟨g1, g2⟩ := leaves_ok items h many d (at_ + many) (next + 1)
    have hc : okI ((items.drop at_).take many) := okI_sub h (fun x hx => List.mem_of_mem_drop (List.mem_of_mem_take hx)) (by simp; omega)
    split
    · refine ⟨fun x hx => ?_, fun k hk => ?_⟩
      · rcases List.mem_cons.1 hx with rfl | hx
        · exact ⟨hc, ⟨(by show 0 < MX; decide), fun _ h => by cases h⟩⟩
        · exact g1 x hx
      · rcases List.mem_cons.1 hk with rfl | hk
        · show okB (((((items.drop at_).take many)[0]?).map (·.key)).getD [])
          cases e : ((items.drop at_).take many)[0]? with
          | none => exact ok_nil
          | some y => exact (hc.h y (List.mem_of_getElem? e)).k
        · exact g2 k hk
    · simp
theorem level_ok (kids : List KidM) (hn : kids.length ≤ 1000) (h : ∀ k ∈ kids, okB k.key) (fan : Nat) : ∀ (d at_ next : Nat), (∀ x ∈ (levelM kids fan d at_ next).1, okN x.n) ∧ ∀ k ∈ (levelM kids fan d at_ next).2, okB k.key
  | 0, at_, next => by simp [levelM]
  | d + 1, at_, next => by
    rw [levelM]
    obtain ⟨g1, g2⟩ := level_ok kids hn h fan d (cutTo kids.length at_ fan) (next + 1)
    have hc : ∀ k ∈ (kids.drop at_).take (cutTo kids.length at_ fan - at_), okB k.key := fun k hk => h k (List.mem_of_mem_drop (List.mem_of_mem_take hk))
    have hl : ((kids.drop at_).take (cutTo kids.length at_ fan - at_)).length ≤ 1000 := by simp; omega
    split
    · refine ⟨fun x hx => ?_, fun k hk => ?_⟩
      · rcases List.mem_cons.1 hx with rfl | hx
        · refine ⟨⟨(by show 0 < MX; decide), fun _ h => by cases h⟩, ⟨?_, fun k hk => ?_⟩⟩
          · show (clearK _).length < MX
            rw [clear_len]
            unfold MX
            omega
          · have hk : k ∈ clearK ((kids.drop at_).take (cutTo kids.length at_ fan - at_)) := hk
            generalize (kids.drop at_).take (cutTo kids.length at_ fan - at_) = g at *
            cases g with
            | nil => cases hk
            | cons a g =>
              rcases List.mem_cons.1 hk with rfl | hk
              · exact ok_nil
              · exact hc k (List.mem_cons_of_mem _ hk)
        · exact g1 x hx
      · rcases List.mem_cons.1 hk with rfl | hk
        · show okB (((((kids.drop at_).take (cutTo kids.length at_ fan - at_))[0]?).map (·.key)).getD [])
          cases e : ((kids.drop at_).take (cutTo kids.length at_ fan - at_))[0]? with
          | none => exact ok_nil
          | some y => exact hc y (List.mem_of_getElem? e)
        · exact g2 k hk
    · simp
theorem up_ok (fan : Nat) (hf : 2 ≤ fan) : ∀ (F : Nat) (kids : List KidM) (next : Nat), kids.length ≤ 1000 → (∀ k ∈ kids, okB k.key) → (∀ x ∈ (upM fan F kids next).1, okN x.n) ∧ (upM fan F kids next).1.length ≤ F * 1000
  | 0, kids, next, _, _ => by simp [upM]
  | F + 1, kids, next, hn, h => by
    rw [upM]
    split
    · obtain ⟨g1, g2⟩ := level_ok kids hn h fan kids.length 0 next
      obtain ⟨a1, a2, a3⟩ := level_len kids fan hf kids.length 0 next (by omega) (by omega)
      obtain ⟨h1, h2⟩ := up_ok fan hf F (levelM kids fan kids.length 0 next).2 (next + (levelM kids fan kids.length 0 next).1.length) (by omega) g2
      refine ⟨fun x hx => ?_, ?_⟩
      · rcases List.mem_append.1 hx with hx | hx
        · exact g1 x hx
        · exact h1 x hx
      · simp only [List.length_append]
        omega
    · simp
theorem made_ok (items : List ItemM) (h : okI items) (hi : items.length ≤ 60) (many fan : Nat) (hm : 1 ≤ many) (hf : 2 ≤ fan) : okL (madeM items many fan).1 := by
  obtain ⟨g1, g2⟩ := leaves_ok items h many (items.length + 1) 0 2
  obtain ⟨a1, a2, _⟩ := leaves_len items many hm (items.length + 1) 0 2
  obtain ⟨h1, h2⟩ := up_ok fan hf 100 (leavesM items many (items.length + 1) 0 2).2 (2 + (leavesM items many (items.length + 1) 0 2).1.length) (by omega) g2
  refine ⟨?_, fun x hx => ?_⟩
  · show (_ ++ _ : List NamedM).length < MX
    rw [List.length_append]
    unfold MX
    omega
  · rcases List.mem_append.1 hx with hx | hx
    · exact g1 x hx
    · exact h1 x hx
end Go.VI

set_option linter.unusedVariables false
set_option linter.unusedSimpArgs false
set_option maxRecDepth 100000
namespace Go.VI
attribute [local congr] AW_congr OW_congr DW_congr NW_congr VW_congr GW_congr PW_congr KW_congr ite_congr' GV_congr CV_congr
/-- A source that tells the node of a number, or an error. -/
structure SrcP (sv : AV) (nd : Int → NodeM × Int) : Prop where
  call : ∀ (ref : Int) (K : Heap) (L : List Blk) (Q : AV → Heap → Prop), KW ft sv [int ref] (hx K L) Q ↔ Q (.tup [.agg (nodeC (nd ref).1), int (nd ref).2]) (hx K L)
  ok : ∀ ref, okN (nd ref).1
  tiny : ∀ ref, (nd ref).1.items.length ≤ 1000 ∧ (nd ref).1.kids.length ≤ 1000
  nn : isnilA 3 sv = some false
  fz : ∀ n H, frz (n + 8) H sv = some (sv, H)
  one : sv.one = true
  cs : sv.cells = [sv]
theorem srcP_F {l : List NamedM} (hl : okL l) (ht : tinyL l) : SrcP (srcF l) (nodeM l) where
  call := fun ref K L Q => k45 hl ht
  ok := ok_node hl
  tiny := tiny_node ht
  nn := rfl
  fz := fun n H => rfl
  one := rfl
  cs := rfl
/-- Down from a node, with so many steps yet. -/
def downX (kf : NodeM → Int) (nd : Int → NodeM × Int) : Nat → Int → List StepM → List StepM × Int
  | 0, _, _ => ([], 130)
  | d + 1, ref, acc =>
    if (nd ref).2 ≠ 0 then ([], (nd ref).2)
    else if (nd ref).1.leaf = false ∧ (nd ref).1.kids.length = 0 then ([], 131)
    else if (nd ref).1.leaf then (acc ++ [⟨ref, (nd ref).1, kf (nd ref).1⟩], 0)
    else match (nd ref).1.kids[(kf (nd ref).1).toNat]? with
      | some x => downX kf nd d x.ref (acc ++ [⟨ref, (nd ref).1, kf (nd ref).1⟩])
      | none => ([], 130)
theorem l41x {sv : AV} {nd : Int → NodeM × Int} (hv : SrcP sv nd) {kv : AV} {kf : NodeM → Int} (hk : Choice kv kf) (T : List StepM × Int) {Q : AExit → Env → Heap → Prop}
   (hex : ∀ f' K, T = ([], 130) → Q (.exit 0) (mkE 59 f') (hx K []))
   (hret : ∀ f' K L S, Rep (hx K L) 5 S (T.1.map stepC) → f' 6 = S → f' 7 = int T.2 → Q .ret (mkE 59 f') (hx K L)) :
   ∀ (d : Nat) (ref : Int) (acc : List StepM) (S : AV) (K : Heap) (f : Nat → AV), d + acc.length = 12 → T = downX kf nd d ref acc → Rep K 5 S (acc.map stepC) → f 0 = sv → f 2 = kv → f 8 = S → f 9 = int ref →
    AW ft (.loop c41L0) (mkE 59 f) (hx K []) Q := by
  intro d
  have lS' : ∀ {acc : List StepM} {S : AV} {K : Heap}, Rep K 5 S (acc.map stepC) → ∀ H, lenV H 0 S = some (int acc.length, H) := fun {acc S K} hr H => by
    rcases hr with ⟨rfl, hr⟩ | ⟨id, rfl, hr⟩
    · have : acc = [] := by simpa using hr
      subst this
      rfl
    · rw [lenV_sl]; simp [int]
  induction d with
  | zero =>
    intro ref acc S K f hd hc hr h0 h2 h8 h9
    have lS := lS' hr
    simp only [int] at lS
    have g : ((acc.length : Int) < 12) = False := eq_false (by omega)
    rw [AW_loop]
    unfold c41L0
    simp only [↓vp, vq0, vq1, vq2, vq3, vr0, vr1, vr2, vr3, vr4, vr5, vr6, vr7, vr8, vr9, vr10, vr11, vr12, vr13, vr14, vr15, vr16, vr17, vr18, vr19, vr20, vr21, vr22, vr23, vr24, vr25, vr26, vr27, vr28, vr29, vr30, vr31, vr32, vr33, vr34, opS, fpS, okP, pack, nAl, allocA, shId, leaves, fillA, fillR, splice, Nat.reduceLT, Nat.reduceEqDiff, Nat.reduceLeDiff, Nat.reduceAdd, Nat.reduceSub, Nat.reduceMul, Int.reduceBEq, Int.reduceBNe, Int.reduceLT, Int.reduceLE, Int.reduceEq, reduceIte, reduceCtorEq, da, int, boolA, h8, lS, g]
    exact hex _ _ hc
  | succ d ih =>
    intro ref acc S K f hd hc hr h0 h2 h8 h9
    have o1 := hv.ok ref
    obtain ⟨t1, t2⟩ := hv.tiny ref
    rw [AW_loop]
    unfold c41L0
    have k45' := fun K L Q => hv.call ref K L Q
    simp only [int] at k45'
    have kc := hk.call _ o1 t1
    have kp := hk.free (nd ref).1
    have lS := lS' hr
    simp only [int] at lS
    have g : ((acc.length : Int) < 12) = True := eq_true (by omega)
    rw [downX] at hc
    generalize nd ref = p at *
    obtain ⟨n, er⟩ := p
    simp only at o1 t1 t2 kc kp k45' hc
    cases e1 : (er != 0) with
    | true =>
      have e1' : er ≠ 0 := by simpa using e1
      rw [if_pos e1'] at hc
      simp only [↓vp, vq0, vq1, vq2, vq3, vr0, vr1, vr2, vr3, vr4, vr5, vr6, vr7, vr8, vr9, vr10, vr11, vr12, vr13, vr14, vr15, vr16, vr17, vr18, vr19, vr20, vr21, vr22, vr23, vr24, vr25, vr26, vr27, vr28, vr29, vr30, vr31, vr32, vr33, vr34, opS, fpS, okP, pack, nAl, allocA, shId, leaves, fillA, fillR, splice, Nat.reduceLT, Nat.reduceEqDiff, Nat.reduceLeDiff, Nat.reduceAdd, Nat.reduceSub, Nat.reduceMul, Int.reduceBEq, Int.reduceBNe, Int.reduceLT, Int.reduceLE, Int.reduceEq, reduceIte, reduceCtorEq, da, int, boolA, h0, h2, h8, h9, lS, g, k45', e1]
      refine hret _ _ _ (.sc (.slice none 0 0)) ?_ ?_ ?_
      · rw [hc]; exact .inl ⟨rfl, rfl⟩
      · simp only [↓vp, vq0, vq1, vq2, vq3, vr0, vr1, vr2, vr3, vr4, vr5, vr6, vr7, vr8, vr9, vr10, vr11, vr12, vr13, vr14, vr15, vr16, vr17, vr18, vr19, vr20, vr21, vr22, vr23, vr24, vr25, vr26, vr27, vr28, vr29, vr30, vr31, vr32, vr33, vr34, opS, fpS, okP, pack, nAl, allocA, shId, leaves, fillA, fillR, splice, Nat.reduceLT, Nat.reduceEqDiff, Nat.reduceLeDiff, Nat.reduceAdd, Nat.reduceSub, Nat.reduceMul, Int.reduceBEq, Int.reduceBNe, Int.reduceLT, Int.reduceLE, Int.reduceEq, reduceIte, reduceCtorEq, da, int, boolA]
      · simp only [↓vp, vq0, vq1, vq2, vq3, vr0, vr1, vr2, vr3, vr4, vr5, vr6, vr7, vr8, vr9, vr10, vr11, vr12, vr13, vr14, vr15, vr16, vr17, vr18, vr19, vr20, vr21, vr22, vr23, vr24, vr25, vr26, vr27, vr28, vr29, vr30, vr31, vr32, vr33, vr34, opS, fpS, okP, pack, nAl, allocA, shId, leaves, fillA, fillR, splice, Nat.reduceLT, Nat.reduceEqDiff, Nat.reduceLeDiff, Nat.reduceAdd, Nat.reduceSub, Nat.reduceMul, Int.reduceBEq, Int.reduceBNe, Int.reduceLT, Int.reduceLE, Int.reduceEq, reduceIte, reduceCtorEq, da, int, boolA, hc]
    | false =>
      have e1' : ¬ er ≠ 0 := by simpa using e1
      rw [if_neg e1'] at hc
      have cat : ∀ (x : StepM), ((acc ++ [x]).map stepC) = acc.map stepC ++ [stepC x] := fun x => by rw [List.map_append]; rfl
      have ln : (acc.map stepC).length = acc.length := by simp
      have hb : (acc.length + 1) * 72 ≤ 140737488355328 := by omega
      cases e2 : n.leaf with
      | true =>
        rw [if_neg (by simp [e2]), if_pos e2] at hc
        rcases hr with ⟨rfl, hr⟩ | ⟨id, rfl, hr⟩
        · simp only [↓vp, vq0, vq1, vq2, vq3, vr0, vr1, vr2, vr3, vr4, vr5, vr6, vr7, vr8, vr9, vr10, vr11, vr12, vr13, vr14, vr15, vr16, vr17, vr18, vr19, vr20, vr21, vr22, vr23, vr24, vr25, vr26, vr27, vr28, vr29, vr30, vr31, vr32, vr33, vr34, opS, fpS, okP, pack, nAl, allocA, shId, leaves, fillA, fillR, splice, Nat.reduceLT, Nat.reduceEqDiff, Nat.reduceLeDiff, Nat.reduceAdd, Nat.reduceSub, Nat.reduceMul, Int.reduceBEq, Int.reduceBNe, Int.reduceLT, Int.reduceLE, Int.reduceEq, reduceIte, reduceCtorEq, da, int, boolA, List.length_append, n_take, n_take4, n_drop, n_drop3, n_onea, zna, h0, h2, h8, h9, lS, g, k45', e1, e2, kc, kp]
          refine hret _ _ _ (.sl (K.next + 3) 0 1) (.inr ⟨K.next + 3, ?_, ?_⟩) ?_ ?_
          · rw [hc, cat, hr]; rfl
          · rw [hc, cat, hr]
            simp only [↓vp, vq0, vq1, vq2, vq3, vr0, vr1, vr2, vr3, vr4, vr5, vr6, vr7, vr8, vr9, vr10, vr11, vr12, vr13, vr14, vr15, vr16, vr17, vr18, vr19, vr20, vr21, vr22, vr23, vr24, vr25, vr26, vr27, vr28, vr29, vr30, vr31, vr32, vr33, vr34, opS, fpS, okP, pack, nAl, allocA, shId, leaves, fillA, fillR, splice, Nat.reduceLT, Nat.reduceEqDiff, Nat.reduceLeDiff, Nat.reduceAdd, Nat.reduceSub, Nat.reduceMul, Int.reduceBEq, Int.reduceBNe, Int.reduceLT, Int.reduceLE, Int.reduceEq, reduceIte, reduceCtorEq]
            rfl
          · simp only [↓vp, vq0, vq1, vq2, vq3, vr0, vr1, vr2, vr3, vr4, vr5, vr6, vr7, vr8, vr9, vr10, vr11, vr12, vr13, vr14, vr15, vr16, vr17, vr18, vr19, vr20, vr21, vr22, vr23, vr24, vr25, vr26, vr27, vr28, vr29, vr30, vr31, vr32, vr33, vr34, opS, fpS, okP, pack, nAl, allocA, shId, leaves, fillA, fillR, splice, Nat.reduceLT, Nat.reduceEqDiff, Nat.reduceLeDiff, Nat.reduceAdd, Nat.reduceSub, Nat.reduceMul, Int.reduceBEq, Int.reduceBNe, Int.reduceLT, Int.reduceLE, Int.reduceEq, reduceIte, reduceCtorEq, da, int, boolA]
          · simp only [↓vp, vq0, vq1, vq2, vq3, vr0, vr1, vr2, vr3, vr4, vr5, vr6, vr7, vr8, vr9, vr10, vr11, vr12, vr13, vr14, vr15, vr16, vr17, vr18, vr19, vr20, vr21, vr22, vr23, vr24, vr25, vr26, vr27, vr28, vr29, vr30, vr31, vr32, vr33, vr34, opS, fpS, okP, pack, nAl, allocA, shId, leaves, fillA, fillR, splice, Nat.reduceLT, Nat.reduceEqDiff, Nat.reduceLeDiff, Nat.reduceAdd, Nat.reduceSub, Nat.reduceMul, Int.reduceBEq, Int.reduceBNe, Int.reduceLT, Int.reduceLE, Int.reduceEq, reduceIte, reduceCtorEq, da, int, boolA, hc]
        · have lid := Heap.get_lt hr
          have oid := fun L => hx_get_old K L id lid
          have pid := fun L b => hx_set_old K L b id lid
          simp only [↓vp, vq0, vq1, vq2, vq3, vr0, vr1, vr2, vr3, vr4, vr5, vr6, vr7, vr8, vr9, vr10, vr11, vr12, vr13, vr14, vr15, vr16, vr17, vr18, vr19, vr20, vr21, vr22, vr23, vr24, vr25, vr26, vr27, vr28, vr29, vr30, vr31, vr32, vr33, vr34, opS, fpS, okP, pack, nAl, allocA, shId, leaves, fillA, fillR, splice, Nat.reduceLT, Nat.reduceEqDiff, Nat.reduceLeDiff, Nat.reduceAdd, Nat.reduceSub, Nat.reduceMul, Int.reduceBEq, Int.reduceBNe, Int.reduceLT, Int.reduceLE, Int.reduceEq, reduceIte, reduceCtorEq, da, int, boolA, List.length_append, n_take, n_take4, n_drop, n_drop3, n_onea, zna, h0, h2, h8, h9, lS, g, k45', e1, e2, kc, kp, oid, pid, hr, ln, hb, List.take_of_length_le (Nat.le_of_eq ln)]
          refine hret _ _ _ (.sl (K.next + 3) 0 (acc.length + 1)) (.inr ⟨K.next + 3, ?_, ?_⟩) ?_ ?_
          · rw [hc, cat, List.length_append, ln]; rfl
          · rw [hc, cat]
            simp only [↓vp, vq0, vq1, vq2, vq3, vr0, vr1, vr2, vr3, vr4, vr5, vr6, vr7, vr8, vr9, vr10, vr11, vr12, vr13, vr14, vr15, vr16, vr17, vr18, vr19, vr20, vr21, vr22, vr23, vr24, vr25, vr26, vr27, vr28, vr29, vr30, vr31, vr32, vr33, vr34, opS, fpS, okP, pack, nAl, allocA, shId, leaves, fillA, fillR, splice, Nat.reduceLT, Nat.reduceEqDiff, Nat.reduceLeDiff, Nat.reduceAdd, Nat.reduceSub, Nat.reduceMul, Int.reduceBEq, Int.reduceBNe, Int.reduceLT, Int.reduceLE, Int.reduceEq, reduceIte, reduceCtorEq]
            rfl
          · simp only [↓vp, vq0, vq1, vq2, vq3, vr0, vr1, vr2, vr3, vr4, vr5, vr6, vr7, vr8, vr9, vr10, vr11, vr12, vr13, vr14, vr15, vr16, vr17, vr18, vr19, vr20, vr21, vr22, vr23, vr24, vr25, vr26, vr27, vr28, vr29, vr30, vr31, vr32, vr33, vr34, opS, fpS, okP, pack, nAl, allocA, shId, leaves, fillA, fillR, splice, Nat.reduceLT, Nat.reduceEqDiff, Nat.reduceLeDiff, Nat.reduceAdd, Nat.reduceSub, Nat.reduceMul, Int.reduceBEq, Int.reduceBNe, Int.reduceLT, Int.reduceLE, Int.reduceEq, reduceIte, reduceCtorEq, da, int, boolA]
          · simp only [↓vp, vq0, vq1, vq2, vq3, vr0, vr1, vr2, vr3, vr4, vr5, vr6, vr7, vr8, vr9, vr10, vr11, vr12, vr13, vr14, vr15, vr16, vr17, vr18, vr19, vr20, vr21, vr22, vr23, vr24, vr25, vr26, vr27, vr28, vr29, vr30, vr31, vr32, vr33, vr34, opS, fpS, okP, pack, nAl, allocA, shId, leaves, fillA, fillR, splice, Nat.reduceLT, Nat.reduceEqDiff, Nat.reduceLeDiff, Nat.reduceAdd, Nat.reduceSub, Nat.reduceMul, Int.reduceBEq, Int.reduceBNe, Int.reduceLT, Int.reduceLE, Int.reduceEq, reduceIte, reduceCtorEq, da, int, boolA, hc]
      | false =>
        cases e3 : ((n.kids.length : Int) == 0) with
        | true =>
          have e3' : n.kids.length = 0 := by simpa using e3
          rw [if_pos ⟨e2, e3'⟩] at hc
          simp only [↓vp, vq0, vq1, vq2, vq3, vr0, vr1, vr2, vr3, vr4, vr5, vr6, vr7, vr8, vr9, vr10, vr11, vr12, vr13, vr14, vr15, vr16, vr17, vr18, vr19, vr20, vr21, vr22, vr23, vr24, vr25, vr26, vr27, vr28, vr29, vr30, vr31, vr32, vr33, vr34, opS, fpS, okP, pack, nAl, allocA, shId, leaves, fillA, fillR, splice, Nat.reduceLT, Nat.reduceEqDiff, Nat.reduceLeDiff, Nat.reduceAdd, Nat.reduceSub, Nat.reduceMul, Int.reduceBEq, Int.reduceBNe, Int.reduceLT, Int.reduceLE, Int.reduceEq, reduceIte, reduceCtorEq, da, int, boolA, h0, h2, h8, h9, lS, g, k45', e1, e2, e3]
          refine hret _ _ _ (.sc (.slice none 0 0)) ?_ ?_ ?_
          · rw [hc]; exact .inl ⟨rfl, rfl⟩
          · simp only [↓vp, vq0, vq1, vq2, vq3, vr0, vr1, vr2, vr3, vr4, vr5, vr6, vr7, vr8, vr9, vr10, vr11, vr12, vr13, vr14, vr15, vr16, vr17, vr18, vr19, vr20, vr21, vr22, vr23, vr24, vr25, vr26, vr27, vr28, vr29, vr30, vr31, vr32, vr33, vr34, opS, fpS, okP, pack, nAl, allocA, shId, leaves, fillA, fillR, splice, Nat.reduceLT, Nat.reduceEqDiff, Nat.reduceLeDiff, Nat.reduceAdd, Nat.reduceSub, Nat.reduceMul, Int.reduceBEq, Int.reduceBNe, Int.reduceLT, Int.reduceLE, Int.reduceEq, reduceIte, reduceCtorEq, da, int, boolA]
          · simp only [↓vp, vq0, vq1, vq2, vq3, vr0, vr1, vr2, vr3, vr4, vr5, vr6, vr7, vr8, vr9, vr10, vr11, vr12, vr13, vr14, vr15, vr16, vr17, vr18, vr19, vr20, vr21, vr22, vr23, vr24, vr25, vr26, vr27, vr28, vr29, vr30, vr31, vr32, vr33, vr34, opS, fpS, okP, pack, nAl, allocA, shId, leaves, fillA, fillR, splice, Nat.reduceLT, Nat.reduceEqDiff, Nat.reduceLeDiff, Nat.reduceAdd, Nat.reduceSub, Nat.reduceMul, Int.reduceBEq, Int.reduceBNe, Int.reduceLT, Int.reduceLE, Int.reduceEq, reduceIte, reduceCtorEq, da, int, boolA, hc]
        | false =>
          have e3' : n.kids.length ≠ 0 := by simpa using e3
          rw [if_neg (by simp [e3']), if_neg (by simp [e2])] at hc
          obtain ⟨j, hj, hjl⟩ := hk.rng n o1 e2 (by omega)
          rw [hj, Int.toNat_natCast, List.getElem?_eq_getElem hjl] at hc
          simp only at hc
          rcases hr with ⟨rfl, hr⟩ | ⟨id, rfl, hr⟩
          · simp only [↓vp, vq0, vq1, vq2, vq3, vr0, vr1, vr2, vr3, vr4, vr5, vr6, vr7, vr8, vr9, vr10, vr11, vr12, vr13, vr14, vr15, vr16, vr17, vr18, vr19, vr20, vr21, vr22, vr23, vr24, vr25, vr26, vr27, vr28, vr29, vr30, vr31, vr32, vr33, vr34, opS, fpS, okP, pack, nAl, allocA, shId, leaves, fillA, fillR, splice, Nat.reduceLT, Nat.reduceEqDiff, Nat.reduceLeDiff, Nat.reduceAdd, Nat.reduceSub, Nat.reduceMul, Int.reduceBEq, Int.reduceBNe, Int.reduceLT, Int.reduceLE, Int.reduceEq, reduceIte, reduceCtorEq, da, int, boolA, List.length_append, n_take, n_take4, n_drop, n_drop3, n_onea, zna, h0, h2, h8, h9, lS, g, k45', e1, e2, e3, kc, kp, hj, atK hjl, cK hjl]
            rw [← hx_nil (hx K _)]
            refine ih _ _ (.sl (K.next + 3) 0 1) _ _ (by simp; omega) hc (.inr ⟨K.next + 3, ?_, ?_⟩) ?_ ?_ ?_ ?_
            · rw [cat, hr]; rfl
            · rw [cat, hr]
              simp only [↓vp, vq0, vq1, vq2, vq3, vr0, vr1, vr2, vr3, vr4, vr5, vr6, vr7, vr8, vr9, vr10, vr11, vr12, vr13, vr14, vr15, vr16, vr17, vr18, vr19, vr20, vr21, vr22, vr23, vr24, vr25, vr26, vr27, vr28, vr29, vr30, vr31, vr32, vr33, vr34, opS, fpS, okP, pack, nAl, allocA, shId, leaves, fillA, fillR, splice, Nat.reduceLT, Nat.reduceEqDiff, Nat.reduceLeDiff, Nat.reduceAdd, Nat.reduceSub, Nat.reduceMul, Int.reduceBEq, Int.reduceBNe, Int.reduceLT, Int.reduceLE, Int.reduceEq, reduceIte, reduceCtorEq]
              rfl
            all_goals simp only [↓vp, vq0, vq1, vq2, vq3, vr0, vr1, vr2, vr3, vr4, vr5, vr6, vr7, vr8, vr9, vr10, vr11, vr12, vr13, vr14, vr15, vr16, vr17, vr18, vr19, vr20, vr21, vr22, vr23, vr24, vr25, vr26, vr27, vr28, vr29, vr30, vr31, vr32, vr33, vr34, opS, fpS, okP, pack, nAl, allocA, shId, leaves, fillA, fillR, splice, Nat.reduceLT, Nat.reduceEqDiff, Nat.reduceLeDiff, Nat.reduceAdd, Nat.reduceSub, Nat.reduceMul, Int.reduceBEq, Int.reduceBNe, Int.reduceLT, Int.reduceLE, Int.reduceEq, reduceIte, reduceCtorEq, da, int, boolA, h0, h2]
          · have lid := Heap.get_lt hr
            have oid := fun L => hx_get_old K L id lid
            have pid := fun L b => hx_set_old K L b id lid
            simp only [↓vp, vq0, vq1, vq2, vq3, vr0, vr1, vr2, vr3, vr4, vr5, vr6, vr7, vr8, vr9, vr10, vr11, vr12, vr13, vr14, vr15, vr16, vr17, vr18, vr19, vr20, vr21, vr22, vr23, vr24, vr25, vr26, vr27, vr28, vr29, vr30, vr31, vr32, vr33, vr34, opS, fpS, okP, pack, nAl, allocA, shId, leaves, fillA, fillR, splice, Nat.reduceLT, Nat.reduceEqDiff, Nat.reduceLeDiff, Nat.reduceAdd, Nat.reduceSub, Nat.reduceMul, Int.reduceBEq, Int.reduceBNe, Int.reduceLT, Int.reduceLE, Int.reduceEq, reduceIte, reduceCtorEq, da, int, boolA, List.length_append, n_take, n_take4, n_drop, n_drop3, n_onea, zna, h0, h2, h8, h9, lS, g, k45', e1, e2, e3, kc, kp, oid, pid, hr, ln, hb, List.take_of_length_le (Nat.le_of_eq ln), hj, atK hjl, cK hjl]
            rw [← hx_nil (hx _ _)]
            refine ih _ _ (.sl (K.next + 3) 0 (acc.length + 1)) _ _ (by simp; omega) hc (.inr ⟨K.next + 3, ?_, ?_⟩) ?_ ?_ ?_ ?_
            · rw [cat, List.length_append, ln]; rfl
            · rw [cat]
              simp only [↓vp, vq0, vq1, vq2, vq3, vr0, vr1, vr2, vr3, vr4, vr5, vr6, vr7, vr8, vr9, vr10, vr11, vr12, vr13, vr14, vr15, vr16, vr17, vr18, vr19, vr20, vr21, vr22, vr23, vr24, vr25, vr26, vr27, vr28, vr29, vr30, vr31, vr32, vr33, vr34, opS, fpS, okP, pack, nAl, allocA, shId, leaves, fillA, fillR, splice, Nat.reduceLT, Nat.reduceEqDiff, Nat.reduceLeDiff, Nat.reduceAdd, Nat.reduceSub, Nat.reduceMul, Int.reduceBEq, Int.reduceBNe, Int.reduceLT, Int.reduceLE, Int.reduceEq, reduceIte, reduceCtorEq]
              rfl
            all_goals simp only [↓vp, vq0, vq1, vq2, vq3, vr0, vr1, vr2, vr3, vr4, vr5, vr6, vr7, vr8, vr9, vr10, vr11, vr12, vr13, vr14, vr15, vr16, vr17, vr18, vr19, vr20, vr21, vr22, vr23, vr24, vr25, vr26, vr27, vr28, vr29, vr30, vr31, vr32, vr33, vr34, opS, fpS, okP, pack, nAl, allocA, shId, leaves, fillA, fillR, splice, Nat.reduceLT, Nat.reduceEqDiff, Nat.reduceLeDiff, Nat.reduceAdd, Nat.reduceSub, Nat.reduceMul, Int.reduceBEq, Int.reduceBNe, Int.reduceLT, Int.reduceLE, Int.reduceEq, reduceIte, reduceCtorEq, da, int, boolA, h0, h2]
def wayX (kf : NodeM → Int) (nd : Int → NodeM × Int) (root : Int) : List StepM × Int := downX kf nd 12 root []
theorem s41x {sv : AV} {nd : Int → NodeM × Int} (hv : SrcP sv nd) {kv : AV} {kf : NodeM → Int} (hk : Choice kv kf) (root : Int) {args : List AV} {H H1 : Heap} (hfz : frzCells H args = some ([sv, int root, kv], H1)) :
    callL ft (.fn (.func 41) [] []) args H = some (.tup [encS (wayX kf nd root).1, int (wayX kf nd root).2], H1) := by
  refine call_p (as' := [sv, int root, kv]) rfl (by simpa using hfz) (by simp) ?_
  unfold c41 r41
  have hn := hv.nn
  simp only [↓vp, vq0, vq1, vq2, vq3, vr0, vr1, vr2, vr3, vr4, vr5, vr6, vr7, vr8, vr9, vr10, vr11, vr12, vr13, vr14, vr15, vr16, vr17, vr18, vr19, vr20, vr21, vr22, vr23, vr24, vr25, vr26, vr27, vr28, vr29, vr30, vr31, vr32, vr33, vr34, opS, fpS, okP, pack, nAl, allocA, shId, leaves, fillA, fillR, splice, Nat.reduceLT, Nat.reduceEqDiff, Nat.reduceLeDiff, Nat.reduceAdd, Nat.reduceSub, Nat.reduceMul, Int.reduceBEq, Int.reduceBNe, Int.reduceLT, Int.reduceLE, Int.reduceEq, reduceIte, reduceCtorEq, da, int, boolA, hn]
  refine l41x hv hk (wayX kf nd root) (fun f' K hT => ?_) (fun f' K L S hr h6 h7 => ?_) 12 root [] (.sc (.slice none 0 0)) _ _ rfl rfl (.inl ⟨rfl, rfl⟩) ?_ ?_ ?_ ?_
  · unfold c41R1
    simp only [↓vp, vq0, vq1, vq2, vq3, vr0, vr1, vr2, vr3, vr4, vr5, vr6, vr7, vr8, vr9, vr10, vr11, vr12, vr13, vr14, vr15, vr16, vr17, vr18, vr19, vr20, vr21, vr22, vr23, vr24, vr25, vr26, vr27, vr28, vr29, vr30, vr31, vr32, vr33, vr34, opS, fpS, okP, pack, nAl, allocA, shId, leaves, fillA, fillR, splice, Nat.reduceLT, Nat.reduceEqDiff, Nat.reduceLeDiff, Nat.reduceAdd, Nat.reduceSub, Nat.reduceMul, Int.reduceBEq, Int.reduceBNe, Int.reduceLT, Int.reduceLE, Int.reduceEq, reduceIte, reduceCtorEq, da, int, boolA, RetP_go, resT, resC, resN, retV1, retV2, retV3, retV0, frzFZ, takeM, Option.some.injEq, hT]
    rfl
  · obtain ⟨K', hK'⟩ := frz_rep hr 21
    simp only [↓vp, vq0, vq1, vq2, vq3, vr0, vr1, vr2, vr3, vr4, vr5, vr6, vr7, vr8, vr9, vr10, vr11, vr12, vr13, vr14, vr15, vr16, vr17, vr18, vr19, vr20, vr21, vr22, vr23, vr24, vr25, vr26, vr27, vr28, vr29, vr30, vr31, vr32, vr33, vr34, opS, fpS, okP, pack, nAl, allocA, shId, leaves, fillA, fillR, splice, Nat.reduceLT, Nat.reduceEqDiff, Nat.reduceLeDiff, Nat.reduceAdd, Nat.reduceSub, Nat.reduceMul, Int.reduceBEq, Int.reduceBNe, Int.reduceLT, Int.reduceLE, Int.reduceEq, reduceIte, reduceCtorEq, da, int, boolA, RetP_go, resT, resC, resN, retV1, retV2, retV3, retV0, frzFZ, takeM, Option.some.injEq, h6, h7, hK']
    rfl
  all_goals first | rfl | (simp only [↓vp, vq0, vq1, vq2, vq3, vr0, vr1, vr2, vr3, vr4, vr5, vr6, vr7, vr8, vr9, vr10, vr11, vr12, vr13, vr14, vr15, vr16, vr17, vr18, vr19, vr20, vr21, vr22, vr23, vr24, vr25, vr26, vr27, vr28, vr29, vr30, vr31, vr32, vr33, vr34, opS, fpS, okP, pack, nAl, allocA, shId, leaves, fillA, fillR, splice, Nat.reduceLT, Nat.reduceEqDiff, Nat.reduceLeDiff, Nat.reduceAdd, Nat.reduceSub, Nat.reduceMul, Int.reduceBEq, Int.reduceBNe, Int.reduceLT, Int.reduceLE, Int.reduceEq, reduceIte, reduceCtorEq, da, int, boolA]; done)
theorem s16x {sv : AV} {nd : Int → NodeM × Int} (hv : SrcP sv nd) (root : Int) (key : Bytes) (hk : okB key) {args : List AV} {H H1 : Heap} (hfz : frzCells H args = some ([sv, int root, encB key], H1)) :
    callL ft (.fn (.func 16) [] []) args H = some (.tup [encS (wayX (pathK key) nd root).1, int (wayX (pathK key) nd root).2], H1) := by
  have q : ∀ (Q : AV → Heap → Prop), KW ft (.fn (.func 41) [] []) [sv, int root, .fn (.func 42) [] [.ptr 0 0 0]] (hx Heap.empty [.box false [encB key]]) Q ↔ Q (.tup [encS (wayX (pathK key) nd root).1, int (wayX (pathK key) nd root).2]) (hx Heap.empty [.box true [encB key]]) :=
    fun Q => KW_of (s41x hv (choice_key hk) root (by rw [frzCells_eq, frzL_cons, hv.fz]; rfl))
  simp only [int] at q
  refine call_p (as' := [sv, int root, encB key]) rfl (by simpa using hfz) (by simp) ?_
  unfold c16 r16
  simp only [↓vp, vq0, vq1, vq2, vq3, vr0, vr1, vr2, vr3, vr4, vr5, vr6, vr7, vr8, vr9, vr10, vr11, vr12, vr13, vr14, vr15, vr16, vr17, vr18, vr19, vr20, vr21, vr22, vr23, vr24, vr25, vr26, vr27, vr28, vr29, vr30, vr31, vr32, vr33, vr34, opS, fpS, okP, pack, nAl, allocA, shId, leaves, fillA, fillR, splice, Nat.reduceLT, Nat.reduceEqDiff, Nat.reduceLeDiff, Nat.reduceAdd, Nat.reduceSub, Nat.reduceMul, Int.reduceBEq, Int.reduceBNe, Int.reduceLT, Int.reduceLE, Int.reduceEq, reduceIte, reduceCtorEq, da, int, boolA, RetP_go, resT, resC, resN, retV1, retV2, retV3, retV0, frzFZ, takeM, Option.some.injEq, q]
theorem s19x {sv : AV} {nd : Int → NodeM × Int} (hv : SrcP sv nd) (root : Int) (last : Bool) {args : List AV} {H H1 : Heap} (hfz : frzCells H args = some ([sv, int root, boolA last], H1)) :
    callL ft (.fn (.func 19) [] []) args H = some (.tup [encS (wayX (edgeK last) nd root).1, int (wayX (edgeK last) nd root).2], H1) := by
  have q : ∀ (Q : AV → Heap → Prop), KW ft (.fn (.func 41) [] []) [sv, int root, .fn (.func 51) [] [.ptr 0 0 0]] (hx Heap.empty [.box false [boolA last]]) Q ↔ Q (.tup [encS (wayX (edgeK last) nd root).1, int (wayX (edgeK last) nd root).2]) (hx Heap.empty [.box true [boolA last]]) :=
    fun Q => KW_of (s41x hv (choice_edge last) root (by rw [frzCells_eq, frzL_cons, hv.fz]; rfl))
  simp only [int, boolA] at q
  refine call_p (as' := [sv, int root, boolA last]) rfl (by simpa using hfz) (by simp) ?_
  unfold c19 r19
  simp only [↓vp, vq0, vq1, vq2, vq3, vr0, vr1, vr2, vr3, vr4, vr5, vr6, vr7, vr8, vr9, vr10, vr11, vr12, vr13, vr14, vr15, vr16, vr17, vr18, vr19, vr20, vr21, vr22, vr23, vr24, vr25, vr26, vr27, vr28, vr29, vr30, vr31, vr32, vr33, vr34, opS, fpS, okP, pack, nAl, allocA, shId, leaves, fillA, fillR, splice, Nat.reduceLT, Nat.reduceEqDiff, Nat.reduceLeDiff, Nat.reduceAdd, Nat.reduceSub, Nat.reduceMul, Int.reduceBEq, Int.reduceBNe, Int.reduceLT, Int.reduceLE, Int.reduceEq, reduceIte, reduceCtorEq, da, int, boolA, RetP_go, resT, resC, resN, retV1, retV2, retV3, retV0, frzFZ, takeM, Option.some.injEq, q]
end Go.VI

set_option linter.unusedVariables false
set_option linter.unusedSimpArgs false
set_option maxRecDepth 100000
namespace Go.VI
attribute [local congr] AW_congr OW_congr DW_congr NW_congr VW_congr GW_congr PW_congr KW_congr ite_congr' GV_congr CV_congr
/-- The way that a cursor holds: a growing slice, cut or not. -/
def RepS (K : Heap) (lv : AV) (ws : List StepM) : Prop :=
  (lv = .sc (.slice none 0 0) ∧ ws = []) ∨ ∃ id rs, lv = .sl id 0 ws.length ∧ K.get id = some (.row false 5 rs) ∧ rs.take ws.length = ws.map stepC
/-- A cursor's box and its way. -/
def Cur (K : Heap) (cid : Nat) (sv : AV) (root : Int) (lv : AV) (ws : List StepM) : Prop := K.get cid = some (.box false [sv, int root, lv]) ∧ RepS K lv ws
def OwnC (H : Heap) (cid id : Nat) : Prop := id = cid ∨ ∃ s r off len, H.get cid = some (.box false [s, r, .sl id off len])
/-- What lies elsewhere stays; boxes of X may be frozen. -/
structure KeepC (cid : Nat) (X : List Nat) (H H' : Heap) : Prop where
  le : H.next ≤ H'.next
  old : ∀ id b, H.get id = some b → ¬ OwnC H cid id → id ∉ X → H'.get id = some b
  bx : ∀ id ∈ X, ∀ fz c, H.get id = some (.box fz c) → ∃ fz', H'.get id = some (.box fz' c)
  own : ∀ id, OwnC H' cid id → OwnC H cid id ∨ H.next ≤ id
theorem KeepC.trans {cid : Nat} {X : List Nat} {H H' H'' : Heap} (h : KeepC cid X H H') (h' : KeepC cid X H' H'') : KeepC cid X H H'' where
  le := Nat.le_trans h.le h'.le
  old := fun id b hb ho hx => h'.old id b (h.old id b hb ho hx) (fun h2 => by
    rcases h.own id h2 with h3 | h3
    · exact ho h3
    · have := Heap.get_lt hb; omega) hx
  bx := fun id hi fz c hg => by
    obtain ⟨fz', h1⟩ := h.bx id hi fz c hg
    exact h'.bx id hi fz' c h1
  own := fun id ho => by
    rcases h'.own id ho with h1 | h1
    · exact h.own id h1
    · exact .inr (Nat.le_trans h.le h1)
theorem KeepC.rfl' {cid : Nat} {X : List Nat} {H : Heap} : KeepC cid X H H := ⟨Nat.le_refl _, fun _ _ h _ _ => h, fun _ _ fz c h => ⟨fz, h⟩, fun _ h => .inl h⟩
theorem KeepC.hx {cid : Nat} {X : List Nat} {H : Heap} (hc : cid < H.next) (L : List Blk) : KeepC cid X H (hx H L) :=
  ⟨by rw [hx_next]; omega, fun _ _ h _ _ => get_old h L, fun _ _ fz c h => ⟨fz, get_old h L⟩, fun id h => by
    rcases h with h | ⟨s, r, o, l, h⟩
    · exact .inl (.inl h)
    · rw [hx_get_old _ _ _ hc] at h
      exact .inl (.inr ⟨s, r, o, l, h⟩)⟩
/-- The cursor's box is written. -/
theorem KeepC.box {cid : Nat} {X : List Nat} {H : Heap} (hc : cid < H.next) (hX : cid ∉ X) (s r lv : AV) (hl : ∀ id off len, lv = .sl id off len → OwnC H cid id ∨ H.next ≤ id) : KeepC cid X H (H.set cid (.box false [s, r, lv])) :=
  ⟨by simp, fun id b hb ho hx => by
    rw [Heap.get_set_ne _ (fun e => ho (.inl e))]; exact hb, fun id hi fz c hg => ⟨fz, by rw [Heap.get_set_ne _ (fun e => hX (by rw [← e]; exact hi))]; exact hg⟩, fun id ho => by
    rcases ho with h | ⟨s', r', o, l, h⟩
    · exact .inl (.inl h)
    · rw [Heap.get_set_self _ hc] at h
      simp only [Option.some.injEq, Blk.box.injEq, List.cons.injEq, and_true, true_and] at h
      exact hl _ _ _ h.2.2⟩
theorem RepS.hx {K : Heap} {lv : AV} {ws : List StepM} (h : RepS K lv ws) (L : List Blk) : RepS (hx K L) lv ws := by
  rcases h with h | ⟨id, rs, h1, h2, h3⟩
  · exact .inl h
  · exact .inr ⟨id, rs, h1, get_old h2 L, h3⟩
theorem Cur.hx {K : Heap} {cid : Nat} {sv lv : AV} {root : Int} {ws : List StepM} (h : Cur K cid sv root lv ws) (L : List Blk) : Cur (hx K L) cid sv root lv ws := ⟨get_old h.1 L, h.2.hx L⟩
theorem RepS.len {K : Heap} {lv : AV} {ws : List StepM} (h : RepS K lv ws) (H : Heap) : lenV H 0 lv = some (.sc (.int .i64 (ws.length : Int)), H) := by
  rcases h with ⟨rfl, rfl⟩ | ⟨id, rs, rfl, _⟩
  · rfl
  · rw [lenV_sl]
/-- What a step may be: its number may be one off. -/
def okC (s : StepM) : Prop := okN s.n ∧ s.n.items.length ≤ 1000 ∧ s.n.kids.length ≤ 1000 ∧ -1 ≤ s.k ∧ s.k ≤ 1001
def okCs (ws : List StepM) : Prop := (∀ s ∈ ws, okC s) ∧ ws.length ≤ 1000000000
def itemN : List AV := [.sc (.slice none 0 0), .sc (.slice none 0 0), int 0, int 0]
def itemR (p : ItemM × Bool) : List AV := if p.2 then itemC p.1 else itemN
def nilI : ItemM := ⟨[], [], 0, 0⟩
/-- The item on which a cursor stands. -/
def hereM (ws : List StepM) : (ItemM × Bool) × List StepM :=
  match ws.getLast? with
  | none => ((nilI, false), [])
  | some s => if 0 ≤ s.k ∧ s.k < s.n.items.length then match s.n.items[s.k.toNat]? with
    | some x => ((x, true), ws)
    | none => ((nilI, false), [])
    else ((nilI, false), [])
/-- What is told: an item, or none, or an error. -/
abbrev Ans := (ItemM × Bool) × Int
def ansV (r : Ans) : AV := .tup [.agg (itemR r.1), boolA r.1.2, int r.2]
theorem cur_nil {H : Heap} {cid : Nat} {X : List Nat} {sv lv : AV} {root : Int} {ws : List StepM} (hX : cid ∉ X) (hc : Cur H cid sv root lv ws) (L : List Blk) :
    Cur (hx (H.set cid (.box false [sv, .sc (.int .i64 root), .sc (.slice none 0 0)])) L) cid sv root (.sc (.slice none 0 0)) [] ∧ KeepC cid X H (hx (H.set cid (.box false [sv, .sc (.int .i64 root), .sc (.slice none 0 0)])) L) := by
  have lw := Heap.get_lt hc.1
  refine ⟨⟨?_, .inl ⟨rfl, rfl⟩⟩, ?_⟩
  · rw [hx_get_old _ _ _ (by simpa using lw), Heap.get_set_self _ lw]
    rfl
  · exact (KeepC.box lw hX _ _ _ (by simp)).trans (KeepC.hx (by simpa using lw) _)
theorem s60 {H : Heap} {cid : Nat} {X : List Nat} {sv lv : AV} {root : Int} {ws : List StepM} (hX : cid ∉ X) (h1 : sv.one = true) (hc : Cur H cid sv root lv ws) (e : Int) :
    ∃ H', callL ft (.fn (.func 60) [] []) [.ptr cid 0 0, int e] H = some (ansV ((nilI, false), e), H') ∧ Cur H' cid sv root (.sc (.slice none 0 0)) [] ∧ KeepC cid X H H' := by
  refine call_oE rfl (by simp) ?_
  obtain ⟨g1, g2⟩ := hc
  have ow := get_old g1
  have lw := Heap.get_lt g1
  have pw := fun L b => hx_set_old H L b cid lw
  have nw0 : (cid = H.next) = False := eq_false (by omega)
  have nwk : ∀ k, (cid = H.next + k) = False := fun k => eq_false (by omega)
  unfold c60 r60 ansV itemR itemN nilI
  simp only [↓vp, vq0, vq1, vq2, vq3, vr0, vr1, vr2, vr3, vr4, vr5, vr6, vr7, vr8, vr9, vr10, vr11, vr12, vr13, vr14, vr15, vr16, vr17, vr18, vr19, vr20, vr21, vr22, vr23, vr24, vr25, vr26, vr27, vr28, vr29, vr30, vr31, vr32, vr33, vr34, opS, fpS, okP, pack, nAl, allocA, shId, leaves, fillA, fillR, splice, Nat.reduceLT, Nat.reduceEqDiff, Nat.reduceLeDiff, Nat.reduceAdd, Nat.reduceSub, Nat.reduceMul, Int.reduceBEq, Int.reduceBNe, Int.reduceLT, Int.reduceLE, Int.reduceEq, reduceIte, reduceCtorEq, da, int, boolA, ow, pw, nw0, nwk, RetE_go, resT, resC, resN, retV3, cells_sc]
  exact cur_nil hX ⟨g1, g2⟩ _
theorem RepS.at {K : Heap} {lv : AV} {ws : List StepM} (h : RepS K lv ws) {i : Nat} (hi : i < ws.length) : ∃ id rs, lv = .sl id 0 ws.length ∧ K.get id = some (.row false 5 rs) ∧ rs[i]? = some (stepC ws[i]) := by
  rcases h with ⟨rfl, rfl⟩ | ⟨id, rs, h1, h2, h3⟩
  · simp at hi
  · refine ⟨id, rs, h1, h2, ?_⟩
    have : (rs.take ws.length)[i]? = some (stepC ws[i]) := by rw [h3]; simp [hi]
    rwa [List.getElem?_take_of_lt hi] at this
theorem iaddr_sl {H : Heap} {id len sz : Nat} {rs : List (List AV)} {fz : Bool} (h : H.get id = some (.row fz sz rs)) {i : Nat} (hi : i < len) : iaddrA H none sz (.sl id 0 len) (i : Int) = some (.ptr id i 0) := by
  have h1 : rowSz H id = some sz := by simp [rowSz, h]
  simp only [iaddrA, h1]
  rw [if_pos ⟨by omega, by omega, trivial⟩]
  simp
theorem cells_row {H : Heap} {id i sz : Nat} {rs : List (List AV)} {fz : Bool} {r : List AV} (h : H.get id = some (.row fz sz rs)) (hr : rs[i]? = some r) (off n : Nat) : cellsAt H (.ptr id i off) n = if off + n ≤ r.length then some ((r.drop off).take n) else none := by
  rw [cellsAt_ptr, h]
  simp only [hr]
theorem getLast_at {α : Type} {l : List α} {m : Nat} (h : l.length = m + 1) : l.getLast? = some (l[m]'(by omega)) := by
  rw [List.getLast?_eq_getElem?, show l.length - 1 = m by omega, List.getElem?_eq_getElem (show m < l.length by omega)]
theorem s63 {H : Heap} {cid : Nat} {X : List Nat} {sv lv : AV} {root : Int} {ws : List StepM} (hX : cid ∉ X) (h1 : sv.one = true) (hc : Cur H cid sv root lv ws) (hw : okCs ws) :
    ∃ H' lv', callL ft (.fn (.func 63) [] []) [.ptr cid 0 0] H = some (ansV ((hereM ws).1, 0), H') ∧ Cur H' cid sv root lv' (hereM ws).2 ∧ KeepC cid X H H' := by
  have key : ∀ {R : AV} {P : Heap → Prop}, (∃ H', callL ft (.fn (.func 63) [] []) [.ptr cid 0 0] H = some (R, H') ∧ P H') → ∃ H', callL ft (.fn (.func 63) [] []) [.ptr cid 0 0] H = some (R, H') ∧ P H' := fun h => h
  obtain ⟨g1, g2⟩ := hc
  have ow := get_old g1
  have lw := Heap.get_lt g1
  have pw := fun L b => hx_set_old H L b cid lw
  have nw0 : (cid = H.next) = False := eq_false (by omega)
  have nwk : ∀ k, (cid = H.next + k) = False := fun k => eq_false (by omega)
  have ll := fun L => g2.len (hx H L)
  cases hm : ws.length with
  | zero =>
    have hws : ws = [] := List.eq_nil_of_length_eq_zero hm
    rw [hm] at ll
    have hM : hereM ws = ((nilI, false), []) := by rw [hws]; rfl
    rw [hM]
    suffices h : ∃ H', callL ft (.fn (.func 63) [] []) [.ptr cid 0 0] H = some (ansV ((nilI, false), 0), H') ∧ (Cur H' cid sv root lv [] ∧ KeepC cid X H H') by
      obtain ⟨H', a, b, c⟩ := h
      exact ⟨H', lv, a, b, c⟩
    refine call_oE rfl (by simp) ?_
    unfold c63 r63 ansV itemR itemN nilI
    simp only [↓vp, vq0, vq1, vq2, vq3, vr0, vr1, vr2, vr3, vr4, vr5, vr6, vr7, vr8, vr9, vr10, vr11, vr12, vr13, vr14, vr15, vr16, vr17, vr18, vr19, vr20, vr21, vr22, vr23, vr24, vr25, vr26, vr27, vr28, vr29, vr30, vr31, vr32, vr33, vr34, opS, fpS, okP, pack, nAl, allocA, shId, leaves, fillA, fillR, splice, Nat.reduceLT, Nat.reduceEqDiff, Nat.reduceLeDiff, Nat.reduceAdd, Nat.reduceSub, Nat.reduceMul, Int.reduceBEq, Int.reduceBNe, Int.reduceLT, Int.reduceLE, Int.reduceEq, reduceIte, reduceCtorEq, da, int, boolA, ow, pw, nw0, nwk, ll, RetE_go, resT, resC, resN, retV3, cells_sc]
    rw [hws] at g2
    exact ⟨⟨ow _, g2.hx _⟩, KeepC.hx lw _⟩
  | succ m =>
    rw [hm] at ll
    obtain ⟨id, rs, e1, e2, e3⟩ := g2.at (i := m) (by omega)
    have hlast := getLast_at hm
    have hs := hw.1 _ (List.getElem_mem (show m < ws.length by omega))
    generalize ws[m]'(by omega) = s at hlast hs e3
    obtain ⟨o1, o2, o3, o4, o5⟩ := hs
    have hwl := hw.2
    have w0 := wrap_pred (show m < 9223372036854775807 by omega)
    have er := fun L => get_old e2 L
    have ea := fun L => iaddr_sl (er L) (i := m) (len := m + 1) (by omega)
    have ec := fun L off n => cells_row (er L) e3 off n
    have lS : (stepC s).length = 5 := rfl
    rw [hm] at e1
    have nid0 : (id = H.next) = False := eq_false (by have := Heap.get_lt e2; omega)
    have nidk : ∀ k, (id = H.next + k) = False := fun k => eq_false (by have := Heap.get_lt e2; omega)
    have lne : ((m : Int) + 1 == 0) = false := by simp; omega
    subst e1
    by_cases c1 : s.k < 0
    · have hM : hereM ws = ((nilI, false), []) := by
        unfold hereM
        rw [hlast]
        simp only
        rw [if_neg (by omega)]
      rw [hM]
      suffices h : ∃ H', callL ft (.fn (.func 63) [] []) [.ptr cid 0 0] H = some (ansV ((nilI, false), 0), H') ∧ (Cur H' cid sv root (.sc (.slice none 0 0)) [] ∧ KeepC cid X H H') by
        obtain ⟨H', a, b, c⟩ := h
        exact ⟨H', _, a, b, c⟩
      refine call_oE rfl (by simp) ?_
      have d1 : decide (s.k < 0) = true := decide_eq_true c1
      unfold c63 r63 ansV itemR itemN nilI
      simp only [↓vp, vq0, vq1, vq2, vq3, vr0, vr1, vr2, vr3, vr4, vr5, vr6, vr7, vr8, vr9, vr10, vr11, vr12, vr13, vr14, vr15, vr16, vr17, vr18, vr19, vr20, vr21, vr22, vr23, vr24, vr25, vr26, vr27, vr28, vr29, vr30, vr31, vr32, vr33, vr34, opS, fpS, okP, pack, nAl, allocA, shId, leaves, fillA, fillR, splice, Nat.reduceLT, Nat.reduceEqDiff, Nat.reduceLeDiff, Nat.reduceAdd, Nat.reduceSub, Nat.reduceMul, Int.reduceBEq, Int.reduceBNe, Int.reduceLT, Int.reduceLE, Int.reduceEq, reduceIte, reduceCtorEq, da, int, boolA, ow, pw, nw0, nwk, nid0, nidk, ll, lne, w0, er, ea, ec, lS, c1, RetE_go, resT, resC, resN, retV3, cells_sc]
      exact cur_nil hX ⟨g1, g2⟩ _
    · by_cases c2 : (s.n.items.length : Int) ≤ s.k
      · have hM : hereM ws = ((nilI, false), []) := by
          unfold hereM
          rw [hlast]
          simp only
          rw [if_neg (by omega)]
        rw [hM]
        suffices h : ∃ H', callL ft (.fn (.func 63) [] []) [.ptr cid 0 0] H = some (ansV ((nilI, false), 0), H') ∧ (Cur H' cid sv root (.sc (.slice none 0 0)) [] ∧ KeepC cid X H H') by
          obtain ⟨H', a, b, c⟩ := h
          exact ⟨H', _, a, b, c⟩
        refine call_oE rfl (by simp) ?_
        unfold c63 r63 ansV itemR itemN nilI
        simp only [↓vp, vq0, vq1, vq2, vq3, vr0, vr1, vr2, vr3, vr4, vr5, vr6, vr7, vr8, vr9, vr10, vr11, vr12, vr13, vr14, vr15, vr16, vr17, vr18, vr19, vr20, vr21, vr22, vr23, vr24, vr25, vr26, vr27, vr28, vr29, vr30, vr31, vr32, vr33, vr34, opS, fpS, okP, pack, nAl, allocA, shId, leaves, fillA, fillR, splice, Nat.reduceLT, Nat.reduceEqDiff, Nat.reduceLeDiff, Nat.reduceAdd, Nat.reduceSub, Nat.reduceMul, Int.reduceBEq, Int.reduceBNe, Int.reduceLT, Int.reduceLE, Int.reduceEq, reduceIte, reduceCtorEq, da, int, boolA, ow, pw, nw0, nwk, nid0, nidk, ll, lne, w0, er, ea, ec, lS, c1, c2, RetE_go, resT, resC, resN, retV3, cells_sc]
        exact cur_nil hX ⟨g1, g2⟩ _
      · obtain ⟨j, hj⟩ : ∃ j : Nat, s.k = j := ⟨s.k.toNat, by omega⟩
        have hjl : j < s.n.items.length := by omega
        have hM : hereM ws = ((s.n.items[j], true), ws) := by
          unfold hereM
          rw [hlast]
          simp only
          rw [if_pos (by omega), hj, Int.toNat_natCast, List.getElem?_eq_getElem hjl]
        rw [hM]
        suffices h : ∃ H', callL ft (.fn (.func 63) [] []) [.ptr cid 0 0] H = some (ansV ((s.n.items[j], true), 0), H') ∧ (Cur H' cid sv root (.sl id 0 (m + 1)) ws ∧ KeepC cid X H H') by
          obtain ⟨H', a, b, c⟩ := h
          exact ⟨H', _, a, b, c⟩
        refine call_oE rfl (by simp) ?_
        rw [hj] at c1 c2
        unfold c63 r63 ansV itemR
        simp only [↓vp, vq0, vq1, vq2, vq3, vr0, vr1, vr2, vr3, vr4, vr5, vr6, vr7, vr8, vr9, vr10, vr11, vr12, vr13, vr14, vr15, vr16, vr17, vr18, vr19, vr20, vr21, vr22, vr23, vr24, vr25, vr26, vr27, vr28, vr29, vr30, vr31, vr32, vr33, vr34, opS, fpS, okP, pack, nAl, allocA, shId, leaves, fillA, fillR, splice, Nat.reduceLT, Nat.reduceEqDiff, Nat.reduceLeDiff, Nat.reduceAdd, Nat.reduceSub, Nat.reduceMul, Int.reduceBEq, Int.reduceBNe, Int.reduceLT, Int.reduceLE, Int.reduceEq, reduceIte, reduceCtorEq, da, int, boolA, ow, pw, nw0, nwk, nid0, nidk, ll, lne, w0, er, ea, ec, lS, hj, c1, c2, atI hjl, cI hjl, RetE_go, resT, resC, resN, retV3, cells_sc]
        exact ⟨Cur.hx ⟨g1, g2⟩ _, KeepC.hx lw _⟩
end Go.VI

set_option linter.unusedVariables false
set_option linter.unusedSimpArgs false
set_option maxRecDepth 100000
namespace Go.VI
attribute [local congr] AW_congr OW_congr DW_congr NW_congr VW_congr GW_congr PW_congr KW_congr ite_congr' GV_congr CV_congr
theorem s61g (l : List StepM) (h0 : l ≠ []) (hl : l.length ≤ 1000) (G : Heap) :
    callL ft (.fn (.func 61) [] []) [encS l] G = some (.sl (G.next + 1) 0 l.length, hx G [.dead, .row false 5 (l.map stepC)]) := by
  have hn : isnilA 0 (encS l) = some false := by
    cases l with
    | nil => exact absurd rfl h0
    | cons x l => rfl
  have hr : ∀ H, rowsOf H (encS l) = some (l.map stepC) := fun _ => rfl
  have hz := szS l
  have hb : l.length * 72 ≤ 140737488355328 := by omega
  refine call_o rfl (by simp) ?_
  unfold c61 r61
  simp only [↓vp, vq0, vq1, vq2, vq3, vr0, vr1, vr2, vr3, vr4, vr5, vr6, vr7, vr8, vr9, vr10, vr11, vr12, vr13, vr14, vr15, vr16, vr17, vr18, vr19, vr20, vr21, vr22, vr23, vr24, vr25, vr26, vr27, vr28, vr29, vr30, vr31, vr32, vr33, vr34, opS, fpS, okP, pack, nAl, allocA, shId, leaves, fillA, fillR, splice, Nat.reduceLT, Nat.reduceEqDiff, Nat.reduceLeDiff, Nat.reduceAdd, Nat.reduceSub, Nat.reduceMul, Int.reduceBEq, Int.reduceBNe, Int.reduceLT, Int.reduceLE, Int.reduceEq, reduceIte, reduceCtorEq, da, int, boolA, hn, hr, hz, hb, RetO_go, resT, resC, resN, retV1]
theorem s61 (l : List StepM) (h0 : l ≠ []) (hl : l.length ≤ 1000) (H : Heap) (L0 : List Blk) :
    callL ft (.fn (.func 61) [] []) [encS l] (hx H L0) = some (.sl (H.next + (L0.length + 1)) 0 l.length, hx H (L0 ++ [.dead, .row false 5 (l.map stepC)])) := by
  rw [s61g l h0 hl, hx_hx, hx_next, Nat.add_assoc]
theorem k61 {l : List StepM} (h0 : l ≠ []) (hl : l.length ≤ 1000) {H : Heap} {L0 : List Blk} {Q : AV → Heap → Prop} :
    KW ft (.fn (.func 61) [] []) [encS l] (hx H L0) Q ↔ Q (.sl (H.next + (L0.length + 1)) 0 l.length) (hx H (L0 ++ [.dead, .row false 5 (l.map stepC)])) := KW_of (s61 l h0 hl _ _)
theorem own_lt {H : Heap} {cid : Nat} {sv lv : AV} {root : Int} {ws : List StepM} (hc : Cur H cid sv root lv ws) {id : Nat} (h : OwnC H cid id) : id < H.next := by
  rcases h with rfl | ⟨s, r, o, l, h⟩
  · exact Heap.get_lt hc.1
  · rw [hc.1] at h
    simp only [Option.some.injEq, Blk.box.injEq, List.cons.injEq, and_true, true_and] at h
    rcases hc.2 with ⟨e, _⟩ | ⟨id', rs, e, h2, _⟩
    · rw [e] at h; cases h.2.2
    · rw [e] at h; cases h.2.2; exact Heap.get_lt h2
theorem own_hx {H : Heap} {cid : Nat} (hc : cid < H.next) {L : List Blk} {id : Nat} (h : OwnC (hx H L) cid id) : OwnC H cid id := by
  rcases h with h | ⟨s, r, o, l, h⟩
  · exact .inl h
  · rw [hx_get_old _ _ _ hc] at h
    exact .inr ⟨s, r, o, l, h⟩
/-- A new block stays. -/
theorem new_old {H H' : Heap} {cid : Nat} {X : List Nat} {sv lv : AV} {root : Int} {ws : List StepM} (hX : ∀ x ∈ X, x < H.next) {L : List Blk} (hc : Cur H cid sv root lv ws) (hK : KeepC cid X (hx H L) H') {i : Nat} {b : Blk} (hi : L[i]? = some b) :
    H'.get (H.next + i) = some b ∧ ¬ OwnC H' cid (H.next + i) := by
  have lw := Heap.get_lt hc.1
  have h1 : ¬ OwnC (hx H L) cid (H.next + i) := fun h => by have := own_lt hc (own_hx lw h); omega
  have hil := (List.getElem?_eq_some_iff.1 hi).1
  refine ⟨hK.old _ _ (by rw [hx_get]; exact hi) h1 (fun h => by have := hX _ h; omega), fun h => ?_⟩
  rcases hK.own _ h with h | h
  · exact h1 h
  · rw [hx_next] at h; omega
theorem cur_set {H : Heap} {cid : Nat} {sv lv : AV} {root : Int} {ws : List StepM} (hc : Cur H cid sv root lv ws) {i : Nat} (hi : ¬ OwnC H cid i) (b : Blk) : Cur (H.set i b) cid sv root lv ws := by
  refine ⟨?_, ?_⟩
  · rw [Heap.get_set_ne _ (fun e => hi (.inl e.symm))]; exact hc.1
  · rcases hc.2 with h | ⟨id, rs, e, h2, h3⟩
    · exact .inl h
    · refine .inr ⟨id, rs, e, ?_, h3⟩
      rw [Heap.get_set_ne _ (fun e' => hi (.inr ⟨sv, int root, 0, ws.length, ?_⟩))]
      · exact h2
      · rw [hc.1, e, e']
theorem keep_set {H H' : Heap} {cid : Nat} {X : List Nat} (hK : KeepC cid X H H') {i : Nat} (hn : H.next ≤ i) (hi : ¬ OwnC H' cid i) (b : Blk) : KeepC cid X H (H'.set i b) where
  le := by simpa using hK.le
  old := fun id c hc ho hx => by
    have := Heap.get_lt hc
    rw [Heap.get_set_ne _ (by omega)]
    exact hK.old id c hc ho hx
  bx := fun id hid fz c hg => by
    have := Heap.get_lt hg
    rw [Heap.get_set_ne _ (by omega)]
    exact hK.bx id hid fz c hg
  own := fun id h => by
    refine hK.own id ?_
    rcases h with h | ⟨s, r, o, l, h⟩
    · exact .inl h
    · rw [Heap.get_set_ne _ (fun e => hi (.inl e.symm))] at h
      exact .inr ⟨s, r, o, l, h⟩
/-- The box of a result, written behind a call. -/
theorem tail_box {H' : Heap} {i : Nat} {b : Blk} (h : H'.get i = some b) : (∀ L, (hx H' L).get i = some b) ∧ (∀ L b, (hx H' L).set i b = hx (H'.set i b) L) ∧ ∀ L b, (hx (H'.set i b) L).get i = some b := by
  have hl := Heap.get_lt h
  refine ⟨get_old h, fun L b => hx_set_old H' L b i hl, fun L b => ?_⟩
  rw [hx_get_old _ _ _ (by simpa using hl), Heap.get_set_self _ hl]
theorem ir_one (p : ItemM × Bool) : oneAll (itemR p) = true := by unfold itemR; split <;> rfl
theorem ir_len (p : ItemM × Bool) : (itemR p).length = 4 := by unfold itemR; split <;> rfl
theorem ir_take (p : ItemM × Bool) : (itemR p).take 4 = itemR p := by unfold itemR; split <;> rfl
/-- What stands behind a way that is found, or not. -/
def standM (p : List StepM × Int) : Ans × List StepM := if p.2 ≠ 0 then (((nilI, false), p.2), []) else (((hereM p.1).1, 0), (hereM p.1).2)
theorem s58 {H : Heap} {cid : Nat} {X : List Nat} {sv lv : AV} {root : Int} {ws : List StepM} (hX : cid ∉ X ∧ ∀ x ∈ X, x < H.next) (h1 : sv.one = true) (hc : Cur H cid sv root lv ws) (l : List StepM) (e : Int) (hl : e = 0 → l ≠ [] ∧ l.length ≤ 1000 ∧ okCs l) :
    ∃ H', callL ft (.fn (.func 58) [] []) [.ptr cid 0 0, encS l, int e] H = some (ansV (standM (l, e)).1, H') ∧ ∃ lv', Cur H' cid sv root lv' (standM (l, e)).2 ∧ KeepC cid X H H' := by
  refine call_oE rfl (by simp) ?_
  have g1 := hc.1
  have ow := get_old g1
  have lw := Heap.get_lt g1
  have pw := fun L b => hx_set_old H L b cid lw
  unfold c58 r58 ansV
  cases e1 : (e != 0) with
  | true =>
    have e1' : e ≠ 0 := by simpa using e1
    have hM : standM (l, e) = (((nilI, false), e), []) := by unfold standM; rw [if_pos e1']
    rw [hM]
    simp only [↓vp, vq0, vq1, vq2, vq3, vr0, vr1, vr2, vr3, vr4, vr5, vr6, vr7, vr8, vr9, vr10, vr11, vr12, vr13, vr14, vr15, vr16, vr17, vr18, vr19, vr20, vr21, vr22, vr23, vr24, vr25, vr26, vr27, vr28, vr29, vr30, vr31, vr32, vr33, vr34, opS, fpS, okP, pack, nAl, allocA, shId, leaves, fillA, fillR, splice, Nat.reduceLT, Nat.reduceEqDiff, Nat.reduceLeDiff, Nat.reduceAdd, Nat.reduceSub, Nat.reduceMul, Int.reduceBEq, Int.reduceBNe, Int.reduceLT, Int.reduceLE, Int.reduceEq, reduceIte, reduceCtorEq, da, int, boolA, e1]
    refine KW_ex (s60 hX.1 h1 (hc.hx _) e) fun H' hP => ?_
    obtain ⟨p1, p2⟩ := hP
    obtain ⟨q1, q2⟩ := new_old hX.2 hc p2 (i := 0) rfl
    rw [Nat.add_zero] at q1 q2
    obtain ⟨t1, t2, t3⟩ := tail_box q1
    rw [← hx_nil H']
    unfold ansV
    simp only [↓vp, vq0, vq1, vq2, vq3, vr0, vr1, vr2, vr3, vr4, vr5, vr6, vr7, vr8, vr9, vr10, vr11, vr12, vr13, vr14, vr15, vr16, vr17, vr18, vr19, vr20, vr21, vr22, vr23, vr24, vr25, vr26, vr27, vr28, vr29, vr30, vr31, vr32, vr33, vr34, opS, fpS, okP, pack, nAl, allocA, shId, leaves, fillA, fillR, splice, Nat.reduceLT, Nat.reduceEqDiff, Nat.reduceLeDiff, Nat.reduceAdd, Nat.reduceSub, Nat.reduceMul, Int.reduceBEq, Int.reduceBNe, Int.reduceLT, Int.reduceLE, Int.reduceEq, reduceIte, reduceCtorEq, da, int, boolA, ir_one, ir_len, ir_take, t1, t2, t3, RetE_go, resT, resC, resN, retV3, cells_sc]
    rw [hx_nil]
    exact ⟨_, cur_set p1 q2 _, keep_set ((KeepC.hx lw _).trans p2) (Nat.le_refl _) q2 _⟩
  | false =>
    have e1' : e = 0 := by simpa using e1
    have hM : standM (l, e) = (((hereM l).1, 0), (hereM l).2) := by unfold standM; rw [if_neg (by simpa using e1')]
    obtain ⟨l0, l1, l2⟩ := hl e1'
    rw [hM]
    subst e1'
    simp only [↓vp, vq0, vq1, vq2, vq3, vr0, vr1, vr2, vr3, vr4, vr5, vr6, vr7, vr8, vr9, vr10, vr11, vr12, vr13, vr14, vr15, vr16, vr17, vr18, vr19, vr20, vr21, vr22, vr23, vr24, vr25, vr26, vr27, vr28, vr29, vr30, vr31, vr32, vr33, vr34, opS, fpS, okP, pack, nAl, allocA, shId, leaves, fillA, fillR, splice, Nat.reduceLT, Nat.reduceEqDiff, Nat.reduceLeDiff, Nat.reduceAdd, Nat.reduceSub, Nat.reduceMul, Int.reduceBEq, Int.reduceBNe, Int.reduceLT, Int.reduceLE, Int.reduceEq, reduceIte, reduceCtorEq, da, int, boolA, ow, pw, k61 l0 l1, cells_sl]
    have b1 : KeepC cid X H (hx (H.set cid (.box false [sv, int root, .sl (H.next + 2) 0 l.length])) [.box false itemN, .dead, .row false 5 (l.map stepC)]) :=
      (KeepC.box lw hX.1 _ _ _ (fun id off len h => .inr (by cases h; omega))).trans (KeepC.hx (by simpa using lw) _)
    have b2 : Cur (hx (H.set cid (.box false [sv, int root, .sl (H.next + 2) 0 l.length])) [.box false itemN, .dead, .row false 5 (l.map stepC)]) cid sv root (.sl (H.next + 2) 0 l.length) l := by
      refine ⟨?_, .inr ⟨H.next + 2, l.map stepC, rfl, ?_, by rw [List.take_of_length_le (by simp)]⟩⟩
      · rw [hx_get_old _ _ _ (by simpa using lw), Heap.get_set_self _ lw]
      · have := hx_get (H.set cid (.box false [sv, int root, .sl (H.next + 2) 0 l.length])) [.box false itemN, .dead, .row false 5 (l.map stepC)] 2
        rw [Heap.next_set] at this
        rw [this]; rfl
    have b3 : ¬ OwnC (hx (H.set cid (.box false [sv, int root, .sl (H.next + 2) 0 l.length])) [.box false itemN, .dead, .row false 5 (l.map stepC)]) cid H.next := fun h => by
      rcases h with h | ⟨s, r, o, l, h⟩
      · omega
      · rw [b2.1] at h
        simp only [Option.some.injEq, Blk.box.injEq, List.cons.injEq, and_true, true_and, AV.sl.injEq] at h
        omega
    have b4 : (hx (H.set cid (.box false [sv, int root, .sl (H.next + 2) 0 l.length])) [.box false itemN, .dead, .row false 5 (l.map stepC)]).get H.next = some (.box false itemN) := by
      have := hx_get0 (H.set cid (.box false [sv, int root, .sl (H.next + 2) 0 l.length])) [.box false itemN, .dead, .row false 5 (l.map stepC)]
      rw [Heap.next_set] at this
      rw [this]; rfl
    obtain ⟨H', lv', r1, p1, p2⟩ := s63 hX.1 h1 b2 l2
    refine KW_ex (P := fun K => Cur K cid sv root lv' (hereM l).2 ∧ KeepC cid X (hx (H.set cid (.box false [sv, int root, .sl (H.next + 2) 0 l.length])) [.box false itemN, .dead, .row false 5 (l.map stepC)]) K) ⟨H', r1, p1, p2⟩ fun H' hP => ?_
    obtain ⟨p1, p2⟩ := hP
    have q1 := p2.old _ _ b4 b3 (fun h => by have := hX.2 _ h; omega)
    have q2 : ¬ OwnC H' cid H.next := fun h => by
      rcases p2.own _ h with h | h
      · exact b3 h
      · have : H.next < (hx (H.set cid (.box false [sv, int root, .sl (H.next + 2) 0 l.length])) [.box false itemN, .dead, .row false 5 (l.map stepC)]).next := by rw [hx_next]; simp
        omega
    obtain ⟨t1, t2, t3⟩ := tail_box q1
    rw [← hx_nil H']
    unfold ansV
    simp only [↓vp, vq0, vq1, vq2, vq3, vr0, vr1, vr2, vr3, vr4, vr5, vr6, vr7, vr8, vr9, vr10, vr11, vr12, vr13, vr14, vr15, vr16, vr17, vr18, vr19, vr20, vr21, vr22, vr23, vr24, vr25, vr26, vr27, vr28, vr29, vr30, vr31, vr32, vr33, vr34, opS, fpS, okP, pack, nAl, allocA, shId, leaves, fillA, fillR, splice, Nat.reduceLT, Nat.reduceEqDiff, Nat.reduceLeDiff, Nat.reduceAdd, Nat.reduceSub, Nat.reduceMul, Int.reduceBEq, Int.reduceBNe, Int.reduceLT, Int.reduceLE, Int.reduceEq, reduceIte, reduceCtorEq, da, int, boolA, ir_one, ir_len, ir_take, t1, t2, t3, RetE_go, resT, resC, resN, retV3, cells_sc, itemN]
    rw [hx_nil]
    exact ⟨_, cur_set p1 q2 _, keep_set (b1.trans p2) (Nat.le_refl _) q2 _⟩
end Go.VI

set_option linter.unusedVariables false
set_option linter.unusedSimpArgs false
set_option maxRecDepth 100000
namespace Go.VI
attribute [local congr] AW_congr OW_congr DW_congr NW_congr VW_congr GW_congr PW_congr KW_congr ite_congr' GV_congr CV_congr
/-- Boxes of X may be frozen; nothing else turns. -/
structure FrX (X : List Nat) (K K' : Heap) : Prop where
  nx : K'.next = K.next
  off : ∀ id, id ∉ X → K'.get id = K.get id
  bx : ∀ id ∈ X, ∀ fz c, K.get id = some (.box fz c) → ∃ fz', K'.get id = some (.box fz' c)
/-- A source of nodes, in a heap: it may lead to boxes of X. -/
structure SrcV (X : List Nat) (nd : Int → NodeM × Int) (sv : AV) (P : Heap → Prop) : Prop where
  one : sv.one = true
  cs : sv.cells = [sv]
  nn : isnilA 3 sv = some false
  fz : ∀ K, P K → ∃ sv' K', SrcP sv' nd ∧ P K' ∧ FrX X K K' ∧ ∀ n L, frz (n + 8) (hx K L) sv = some (sv', hx K' L)
  bx : ∀ K, P K → ∀ id ∈ X, ∃ fz c, K.get id = some (.box fz c)
  st : ∀ K K', P K → (∀ id ∈ X, ∀ fz c, K.get id = some (.box fz c) → ∃ fz', K'.get id = some (.box fz' c)) → P K'
  ok : ∀ ref, okN (nd ref).1
  tiny : ∀ ref, (nd ref).1.items.length ≤ 1000 ∧ (nd ref).1.kids.length ≤ 1000
theorem srcV_F {l : List NamedM} (hl : okL l) (ht : tinyL l) : SrcV [] (nodeM l) (srcF l) (fun _ => True) where
  one := rfl
  cs := rfl
  nn := rfl
  fz := fun K _ => ⟨srcF l, K, srcP_F hl ht, trivial, ⟨rfl, fun _ _ => rfl, fun _ h => by simp at h⟩, fun _ _ => rfl⟩
  bx := fun _ _ _ h => by simp at h
  st := fun _ _ _ _ => trivial
  ok := ok_node hl
  tiny := tiny_node ht
theorem FrX.keep {X : List Nat} {K K' : Heap} (h : FrX X K K') {cid : Nat} (hX : cid ∉ X) : KeepC cid X K K' :=
  ⟨Nat.le_of_eq h.nx.symm, fun id b hb _ hx => by rw [h.off id hx]; exact hb, h.bx, fun id ho => by
    rcases ho with h' | ⟨s, r, o, l, h'⟩
    · exact .inl (.inl h')
    · rw [h.off _ hX] at h'; exact .inl (.inr ⟨s, r, o, l, h'⟩)⟩
/-- A cursor's row is written. -/
theorem KeepC.row {cid : Nat} {X : List Nat} {H : Heap} {id : Nat} (ho : OwnC H cid id) (hX : id ∉ X) (hne : id ≠ cid) (b : Blk) : KeepC cid X H (H.set id b) :=
  ⟨by simp, fun j c hc hn hx => by
    rw [Heap.get_set_ne _ (fun e => hn (by rw [e]; exact ho))]; exact hc, fun j hj fz c hg => ⟨fz, by rw [Heap.get_set_ne _ (fun e => hX (by rw [← e]; exact hj))]; exact hg⟩, fun j h => by
    rcases h with h | ⟨s, r, o, l, h⟩
    · exact .inl (.inl h)
    · rw [Heap.get_set_ne _ (Ne.symm hne)] at h; exact .inl (.inr ⟨s, r, o, l, h⟩)⟩
theorem KW19 {X : List Nat} {nd : Int → NodeM × Int} {sv : AV} {P : Heap → Prop} (hv : SrcV X nd sv P) {K : Heap} {L : List Blk} (hP : P K) (r : Int) (last : Bool) {Q : AV → Heap → Prop}
    (hq : ∀ K', P K' → FrX X K K' → Q (.tup [encS (wayX (edgeK last) nd r).1, int (wayX (edgeK last) nd r).2]) (hx K' L)) : KW ft (.fn (.func 19) [] []) [sv, .sc (.int .i64 r), .sc (.bool last)] (hx K L) Q := by
  obtain ⟨sv', K', h1, h2, h3, h4⟩ := hv.fz K hP
  refine (KW_of (s19x h1 r last (args := [sv, .sc (.int .i64 r), .sc (.bool last)]) ?_)).2 (hq K' h2 h3)
  rw [frzCells_eq, frzL_cons, h4]
  rfl
theorem KW16 {X : List Nat} {nd : Int → NodeM × Int} {sv : AV} {P : Heap → Prop} (hv : SrcV X nd sv P) {K : Heap} {L : List Blk} (hP : P K) (r : Int) {key : Bytes} {kv : AV} (hk : okB key) (hn : NB kv key) {Q : AV → Heap → Prop}
    (hq : ∀ K', P K' → FrX X K K' → Q (.tup [encS (wayX (pathK key) nd r).1, int (wayX (pathK key) nd r).2]) (hx K' L)) : KW ft (.fn (.func 16) [] []) [sv, .sc (.int .i64 r), kv] (hx K L) Q := by
  obtain ⟨sv', K', h1, h2, h3, h4⟩ := hv.fz K hP
  refine (KW_of (s16x h1 r key hk (args := [sv, .sc (.int .i64 r), kv]) ?_)).2 (hq K' h2 h3)
  rw [frzCells_eq, frzL_cons, h4]
  simp only [Option.bind_some, frzL_cons, frz_int, frzL_nil, hn.fz]
  rfl
/-- Ways of a source: of nodes that are right; whole ones are not empty. -/
theorem wayX_spec (kf : NodeM → Int) {nd : Int → NodeM × Int} (hn : ∀ ref, okN (nd ref).1) (ht : ∀ ref, (nd ref).1.items.length ≤ 1000 ∧ (nd ref).1.kids.length ≤ 1000) (hk : ∀ n : NodeM, n.items.length ≤ 1000 → n.kids.length ≤ 1000 → (n.leaf = false → 0 < n.kids.length) → 0 ≤ kf n ∧ kf n ≤ 1000) :
    ∀ (d : Nat) (ref : Int) (acc : List StepM), okCs acc → d + acc.length = 12 → okCs (downX kf nd d ref acc).1 ∧ ((downX kf nd d ref acc).2 = 0 → (downX kf nd d ref acc).1 ≠ []) ∧ (downX kf nd d ref acc).1.length ≤ 12
  | 0, ref, acc, h, _ => ⟨⟨by simp [downX], by simp [downX]⟩, by simp [downX], by simp [downX]⟩
  | d + 1, ref, acc, h, hd => by
    unfold downX
    split
    · rename_i he
      exact ⟨⟨by simp, by simp⟩, fun e => absurd e he, by simp⟩
    · split
      · exact ⟨⟨by simp, by simp⟩, by simp, by simp⟩
      · rename_i hnk
        have hk' := hk (nd ref).1 (ht ref).1 (ht ref).2 (fun hl => Nat.pos_of_ne_zero fun h0 => hnk ⟨hl, h0⟩)
        have hs : okC ⟨ref, (nd ref).1, kf (nd ref).1⟩ := ⟨hn ref, (ht ref).1, (ht ref).2, by have := hk'.1; simp only; omega, by have := hk'.2; simp only; omega⟩
        have hacc : okCs (acc ++ [⟨ref, (nd ref).1, kf (nd ref).1⟩]) := ⟨fun s hs' => by
          rcases List.mem_append.1 hs' with h' | h'
          · exact h.1 s h'
          · rw [List.mem_singleton.1 h']; exact hs, by simp; omega⟩
        split
        · exact ⟨hacc, by simp, by simp; omega⟩
        · split
          · exact wayX_spec kf hn ht hk d _ _ hacc (by simp; omega)
          · exact ⟨⟨by simp, by simp⟩, by simp, by simp⟩
theorem edge_rng (last : Bool) (n : NodeM) (h1 : n.items.length ≤ 1000) (h2 : n.kids.length ≤ 1000) (h3 : n.leaf = false → 0 < n.kids.length) : 0 ≤ edgeK last n ∧ edgeK last n ≤ 1000 := by
  unfold edgeK
  split
  · split
    · split <;> omega
    · rename_i hl hf
      have := h3 (by simpa using hf)
      omega
  · omega
theorem bsG_le (l : List ItemM) (key : Bytes) : ∀ (n i j : Nat), i ≤ j → bsG l key n i j ≤ j
  | 0, i, j, h => h
  | n + 1, i, j, h => by
    unfold bsG
    split
    · split
      · exact bsG_le l key n _ j (by omega)
      · exact Nat.le_trans (bsG_le l key n i _ (by omega)) (by omega)
    · exact h
theorem path_rng (key : Bytes) (n : NodeM) (h1 : n.items.length ≤ 1000) (h2 : n.kids.length ≤ 1000) (h3 : n.leaf = false → 0 < n.kids.length) : 0 ≤ pathK key n ∧ pathK key n ≤ 1000 := by
  unfold pathK
  split
  · have : bsM n.items key ≤ n.items.length := bsG_le _ _ _ _ _ (Nat.zero_le _)
    omega
  · have := sideD_le n.kids key (n.kids.length - 1)
    unfold sideP
    omega
end Go.VI

set_option linter.unusedVariables false
set_option linter.unusedSimpArgs false
set_option maxRecDepth 100000
namespace Go.VI
attribute [local congr] AW_congr OW_congr DW_congr NW_congr VW_congr GW_congr PW_congr KW_congr ite_congr' GV_congr CV_congr
/-- From the k-th step upwards: where there is a kid beside, down to its edge. -/
def bsdM (nd : Int → NodeM × Int) (by_ : Int) (ws : List StepM) : Nat → Ans × List StepM
  | 0 => (((nilI, false), 0), [])
  | k + 1 => match ws[k]? with
    | none => (((nilI, false), 0), [])
    | some s => match (if 0 ≤ s.k + by_ then s.n.kids[(s.k + by_).toNat]? else none) with
      | none => bsdM nd by_ ws k
      | some x => if (wayX (edgeK (decide (by_ < 0))) nd x.ref).2 ≠ 0 then (((nilI, false), (wayX (edgeK (decide (by_ < 0))) nd x.ref).2), [])
        else (((hereM (ws.take k ++ ⟨s.ref, s.n, s.k + by_⟩ :: (wayX (edgeK (decide (by_ < 0))) nd x.ref).1)).1, 0), (hereM (ws.take k ++ ⟨s.ref, s.n, s.k + by_⟩ :: (wayX (edgeK (decide (by_ < 0))) nd x.ref).1)).2)
def besideM (nd : Int → NodeM × Int) (by_ : Int) (ws : List StepM) : Ans × List StepM := bsdM nd by_ ws (ws.length - 1)
theorem st_take4 (s : StepM) : (stepC s).take 4 = [int s.ref, boolA s.n.leaf, encI s.n.items, encK s.n.kids] := rfl
theorem st_drop5 (s : StepM) : (stepC s).drop 5 = [] := rfl
theorem st_fold (s : StepM) (k : Int) : [AV.sc (.int .i64 s.ref), AV.sc (.bool s.n.leaf), encI s.n.items, encK s.n.kids, AV.sc (.int .i64 k)] = stepC ⟨s.ref, s.n, k⟩ := rfl
theorem l62 {X : List Nat} {nd : Int → NodeM × Int} {sv : AV} {P : Heap → Prop} (hv : SrcV X nd sv P) {H : Heap} {cid : Nat} {root : Int} {lv : AV} {ws : List StepM} (hX : cid ∉ X ∧ ∀ x ∈ X, x < H.next) (hws : okCs ws) (hwl9 : ws.length ≤ 999000000)
    (by_ : Int) (hb : by_ = 1 ∨ by_ = -1) (rid : Nat) (hrid : H.next ≤ rid) (T : Ans × List StepM) {Q : AExit → Env → Heap → Prop}
    (hex : ∀ f' K, T = (((nilI, false), 0), []) → P K → Cur K cid sv root lv ws → KeepC cid X H K → rid < K.next → ¬ OwnC K cid rid → K.get rid = some (.box false itemN) → f' 0 = .ptr cid 0 0 → f' 4 = .ptr rid 0 0 → Q (.exit 0) (mkE 113 f') (hx K []))
    (hret : ∀ f' K lv', Cur K cid sv root lv' T.2 → KeepC cid X H K → K.get rid = some (.box false (itemR T.1.1)) → f' 4 = .ptr rid 0 0 → f' 5 = boolA T.1.1.2 → f' 6 = int T.1.2 → Q .ret (mkE 113 f') (hx K [])) :
    ∀ (d : Nat) (K : Heap) (f : Nat → AV), d < ws.length → T = bsdM nd by_ ws d → P K → Cur K cid sv root lv ws → KeepC cid X H K → rid < K.next → ¬ OwnC K cid rid → K.get rid = some (.box false itemN) →
      f 0 = .ptr cid 0 0 → f 1 = int by_ → f 4 = .ptr rid 0 0 → f 7 = int ((d : Int) - 1) → AW ft (.loop c62L0) (mkE 113 f) (hx K []) Q := by
  intro d
  induction d with
  | zero =>
    intro K f hd hT hP hc hk hr ho hg f0 f1 f4 f7
    rw [AW_loop]
    unfold c62L0
    have g : ((0 : Int) ≤ ((0 : Nat) : Int) - 1) = False := eq_false (by omega)
    simp only [↓vp, vq0, vq1, vq2, vq3, vr0, vr1, vr2, vr3, vr4, vr5, vr6, vr7, vr8, vr9, vr10, vr11, vr12, vr13, vr14, vr15, vr16, vr17, vr18, vr19, vr20, vr21, vr22, vr23, vr24, vr25, vr26, vr27, vr28, vr29, vr30, vr31, vr32, vr33, vr34, opS, fpS, okP, pack, nAl, allocA, shId, leaves, fillA, fillR, splice, Nat.reduceLT, Nat.reduceEqDiff, Nat.reduceLeDiff, Nat.reduceAdd, Nat.reduceSub, Nat.reduceMul, Int.reduceBEq, Int.reduceBNe, Int.reduceLT, Int.reduceLE, Int.reduceEq, reduceIte, reduceCtorEq, da, int, boolA, f7, g]
    refine hex _ K hT hP hc hk hr ho hg ?_ ?_ <;> simp only [↓vp, vq0, vq1, vq2, vq3, vr0, vr1, vr2, vr3, vr4, vr5, vr6, vr7, vr8, vr9, vr10, vr11, vr12, vr13, vr14, vr15, vr16, vr17, vr18, vr19, vr20, vr21, vr22, vr23, vr24, vr25, vr26, vr27, vr28, vr29, vr30, vr31, vr32, vr33, vr34, opS, fpS, okP, pack, nAl, allocA, shId, leaves, fillA, fillR, splice, Nat.reduceLT, Nat.reduceEqDiff, Nat.reduceLeDiff, Nat.reduceAdd, Nat.reduceSub, Nat.reduceMul, Int.reduceBEq, Int.reduceBNe, Int.reduceLT, Int.reduceLE, Int.reduceEq, reduceIte, reduceCtorEq, da, int, boolA, f0, f4]
  | succ k ih =>
    intro K f hd hT hP hc hk hr ho hg f0 f1 f4 f7
    have g : ((0 : Int) ≤ ((k + 1 : Nat) : Int) - 1) = True := eq_true (by omega)
    have e7 : (((k + 1 : Nat) : Int) - 1) = (k : Int) := by omega
    rw [e7] at f7
    have g' : ((0 : Int) ≤ (k : Int)) = True := eq_true (by omega)
    obtain ⟨id, rs, e1, e2, e3⟩ := hc.2.at (i := k) (by omega)
    have hs := hws.1 _ (List.getElem_mem (show k < ws.length by omega))
    rw [bsdM, List.getElem?_eq_getElem (show k < ws.length by omega)] at hT
    simp only at hT
    have hcur := hc
    obtain ⟨g1, g2⟩ := hc
    generalize hsk : ws[k]'(by omega) = s at hT hs e3
    obtain ⟨o1, o2, o3, o4, o5⟩ := hs
    have hwl := hws.2
    have ow := get_old g1
    have lw := Heap.get_lt g1
    have lid := Heap.get_lt e2
    have pw := fun L b => hx_set_old K L b cid lw
    have er := fun L => get_old e2 L
    have ea := fun L => iaddr_sl (er L) (i := k) (len := ws.length) (by omega)
    have ec := fun L off n => cells_row (er L) e3 off n
    have lS : (stepC s).length = 5 := rfl
    have w1 : IntKind.i64.wrap (s.k + by_) = s.k + by_ := wrap_i64 (by rcases hb with rfl | rfl <;> omega)
    have wk : IntKind.i64.wrap ((k : Int) - 1) = (k : Int) - 1 := wrap_i64 (by omega)
    have wk1 : IntKind.i64.wrap ((k : Int) + 1) = ((k + 1 : Nat) : Int) := by rw [wrap_i64 (by omega)]; omega
    rw [AW_loop]
    unfold c62L0
    subst e1
    by_cases c1 : s.k + by_ < 0
    · rw [if_neg (by omega)] at hT
      simp only at hT
      simp only [↓vp, vq0, vq1, vq2, vq3, vr0, vr1, vr2, vr3, vr4, vr5, vr6, vr7, vr8, vr9, vr10, vr11, vr12, vr13, vr14, vr15, vr16, vr17, vr18, vr19, vr20, vr21, vr22, vr23, vr24, vr25, vr26, vr27, vr28, vr29, vr30, vr31, vr32, vr33, vr34, opS, fpS, okP, pack, nAl, allocA, shId, leaves, fillA, fillR, splice, Nat.reduceLT, Nat.reduceEqDiff, Nat.reduceLeDiff, Nat.reduceAdd, Nat.reduceSub, Nat.reduceMul, Int.reduceBEq, Int.reduceBNe, Int.reduceLT, Int.reduceLE, Int.reduceEq, reduceIte, reduceCtorEq, da, int, boolA, f0, f1, f4, f7, g', ow, er, ea, ec, lS, w1, wk, c1]
      rw [← hx_nil (hx _ _)]
      refine ih _ _ (by omega) hT (hv.st _ _ hP fun id _ fz c h => ⟨fz, get_old h _⟩) (hcur.hx _) (hk.trans (KeepC.hx lw _)) (by rw [hx_next]; omega) (fun h => ho (own_hx lw h)) (get_old hg _) ?_ ?_ ?_ ?_ <;> simp only [↓vp, vq0, vq1, vq2, vq3, vr0, vr1, vr2, vr3, vr4, vr5, vr6, vr7, vr8, vr9, vr10, vr11, vr12, vr13, vr14, vr15, vr16, vr17, vr18, vr19, vr20, vr21, vr22, vr23, vr24, vr25, vr26, vr27, vr28, vr29, vr30, vr31, vr32, vr33, vr34, opS, fpS, okP, pack, nAl, allocA, shId, leaves, fillA, fillR, splice, Nat.reduceLT, Nat.reduceEqDiff, Nat.reduceLeDiff, Nat.reduceAdd, Nat.reduceSub, Nat.reduceMul, Int.reduceBEq, Int.reduceBNe, Int.reduceLT, Int.reduceLE, Int.reduceEq, reduceIte, reduceCtorEq, da, int, boolA, f0, f1, f4]
    · by_cases c2 : (s.n.kids.length : Int) ≤ s.k + by_
      · rw [if_pos (by omega), List.getElem?_eq_none (by omega)] at hT
        simp only at hT
        simp only [↓vp, vq0, vq1, vq2, vq3, vr0, vr1, vr2, vr3, vr4, vr5, vr6, vr7, vr8, vr9, vr10, vr11, vr12, vr13, vr14, vr15, vr16, vr17, vr18, vr19, vr20, vr21, vr22, vr23, vr24, vr25, vr26, vr27, vr28, vr29, vr30, vr31, vr32, vr33, vr34, opS, fpS, okP, pack, nAl, allocA, shId, leaves, fillA, fillR, splice, Nat.reduceLT, Nat.reduceEqDiff, Nat.reduceLeDiff, Nat.reduceAdd, Nat.reduceSub, Nat.reduceMul, Int.reduceBEq, Int.reduceBNe, Int.reduceLT, Int.reduceLE, Int.reduceEq, reduceIte, reduceCtorEq, da, int, boolA, f0, f1, f4, f7, g', ow, er, ea, ec, lS, w1, wk, c1, c2]
        rw [← hx_nil (hx _ _)]
        refine ih _ _ (by omega) hT (hv.st _ _ hP fun id _ fz c h => ⟨fz, get_old h _⟩) (hcur.hx _) (hk.trans (KeepC.hx lw _)) (by rw [hx_next]; omega) (fun h => ho (own_hx lw h)) (get_old hg _) ?_ ?_ ?_ ?_ <;> simp only [↓vp, vq0, vq1, vq2, vq3, vr0, vr1, vr2, vr3, vr4, vr5, vr6, vr7, vr8, vr9, vr10, vr11, vr12, vr13, vr14, vr15, vr16, vr17, vr18, vr19, vr20, vr21, vr22, vr23, vr24, vr25, vr26, vr27, vr28, vr29, vr30, vr31, vr32, vr33, vr34, opS, fpS, okP, pack, nAl, allocA, shId, leaves, fillA, fillR, splice, Nat.reduceLT, Nat.reduceEqDiff, Nat.reduceLeDiff, Nat.reduceAdd, Nat.reduceSub, Nat.reduceMul, Int.reduceBEq, Int.reduceBNe, Int.reduceLT, Int.reduceLE, Int.reduceEq, reduceIte, reduceCtorEq, da, int, boolA, f0, f1, f4]
      · obtain ⟨j, hj⟩ : ∃ j : Nat, s.k + by_ = j := ⟨(s.k + by_).toNat, by omega⟩
        have hjl : j < s.n.kids.length := by omega
        rw [if_pos (by omega), hj, Int.toNat_natCast, List.getElem?_eq_getElem hjl] at hT
        simp only at hT
        rw [hj] at c1 c2 w1
        have sl5 : ∀ L, sliceA (hx K L) 5 (.sl id 0 ws.length) none (some ((k + 1 : Nat) : Int)) none = some (.sl id 0 (k + 1)) := fun L => by
          have h1 : rowSz (hx K L) id = some 5 := by simp only [rowSz, er L]
          simp only [sliceA, h1, if_true, boundsA, Option.getD_none, Option.getD_some, Option.map_eq_some_iff]
          refine ⟨(0, k + 1), ?_, ?_⟩
          · rw [if_pos (by omega)]; rfl
          · simp
        have hne : id ≠ cid := fun e => by rw [e, g1] at e2; cases e2
        have hidX : id ∉ X := fun h => by obtain ⟨fz, c, h⟩ := hv.bx K hP id h; rw [e2] at h; cases h
        have hridX : rid ∉ X := fun h => by have := hX.2 _ h; omega
        have hown : OwnC K cid id := .inr ⟨_, _, _, _, g1⟩
        have hrid1 : rid ≠ cid := fun e => ho (.inl e)
        have hrid2 : rid ≠ id := fun e => ho (by rw [e]; exact hown)
        have oc1 : ∀ L b, (hx (K.set cid b) L).get cid = some b := fun L b => by rw [hx_get_old _ _ _ (by simpa using lw), Heap.get_set_self _ lw]
        have or1 : ∀ L b, (hx (K.set cid b) L).get id = some (.row false 5 rs) := fun L b => by rw [hx_get_old _ _ _ (by simpa using lid), Heap.get_set_ne _ hne, e2]
        have ea1 := fun L b => iaddr_sl (or1 L b) (i := k) (len := k + 1) (by omega)
        have ec1 := fun L b off n => cells_row (or1 L b) e3 off n
        have sr1 : ∀ L b b', (hx (K.set cid b) L).set id b' = hx ((K.set cid b).set id b') L := fun L b b' => hx_set_old _ L b' id (by simpa using lid)
        have oc2 : ∀ L b b', (hx ((K.set cid b).set id b') L).get cid = some b := fun L b b' => by rw [hx_get_old _ _ _ (by simpa using lw), Heap.get_set_ne _ (Ne.symm hne), Heap.get_set_self _ lw]
        simp only [↓vp, vq0, vq1, vq2, vq3, vr0, vr1, vr2, vr3, vr4, vr5, vr6, vr7, vr8, vr9, vr10, vr11, vr12, vr13, vr14, vr15, vr16, vr17, vr18, vr19, vr20, vr21, vr22, vr23, vr24, vr25, vr26, vr27, vr28, vr29, vr30, vr31, vr32, vr33, vr34, opS, fpS, okP, pack, nAl, allocA, shId, leaves, fillA, fillR, splice, Nat.reduceLT, Nat.reduceEqDiff, Nat.reduceLeDiff, Nat.reduceAdd, Nat.reduceSub, Nat.reduceMul, Int.reduceBEq, Int.reduceBNe, Int.reduceLT, Int.reduceLE, Int.reduceEq, reduceIte, reduceCtorEq, da, int, boolA, optI, f0, f1, f4, f7, g', ow, pw, er, ea, ec, lS, hj, w1, wk, wk1, c1, c2, atK hjl, cK hjl, sl5, cells_sl, oc1, or1, ea1, ec1, sr1, oc2, e3, st_take4, st_drop5, st_fold]
        generalize hK2 : Heap.set (Heap.set K cid _) id _ = K2
        have n2 : K2.next = K.next := by rw [← hK2]; simp
        have gc2 : K2.get cid = some (.box false [sv, int root, .sl id 0 (k + 1)]) := by
          rw [← hK2, Heap.get_set_ne _ (Ne.symm hne), Heap.get_set_self _ lw]; rfl
        have gr2 : K2.get id = some (.row false 5 (rs.set k (stepC ⟨s.ref, s.n, j⟩))) := by
          rw [← hK2, Heap.get_set_self _ (by simpa using lid)]
        have gq2 : K2.get rid = some (.box false itemN) := by
          rw [← hK2, Heap.get_set_ne _ hrid2, Heap.get_set_ne _ hrid1, hg]
        have kk2 : KeepC cid X K K2 := by
          rw [← hK2]
          refine (KeepC.box lw hX.1 sv (int root) (.sl id 0 (k + 1)) (fun i' o l h => by cases h; exact .inl hown)).trans (KeepC.row (.inr ⟨sv, int root, 0, k + 1, ?_⟩) hidX hne _)
          rw [Heap.get_set_self _ lw]
        have P2 : P K2 := hv.st _ _ hP kk2.bx
        refine KW19 hv P2 _ _ fun K3 P3 hF => ?_
        have n3 : K3.next = K.next := by rw [hF.nx, n2]
        have gc3 : K3.get cid = some (.box false [sv, int root, .sl id 0 (k + 1)]) := by rw [hF.off _ hX.1, gc2]
        have gr3 : K3.get id = some (.row false 5 (rs.set k (stepC ⟨s.ref, s.n, j⟩))) := by rw [hF.off _ hidX, gr2]
        have gq3 : K3.get rid = some (.box false itemN) := by rw [hF.off _ hridX, gq2]
        have kk3 : KeepC cid X H K3 := (hk.trans kk2).trans (hF.keep hX.1)
        have own3 : ∀ i', OwnC K3 cid i' → i' = cid ∨ i' = id := fun i' h => by
          rcases h with h | ⟨s', r', o', l', h⟩
          · exact .inl h
          · rw [gc3] at h
            simp only [Option.some.injEq, Blk.box.injEq, List.cons.injEq, and_true, true_and, AV.sl.injEq] at h
            exact .inr h.2.2.1.symm
        have hrsl : k < rs.length := (List.getElem?_eq_some_iff.1 e3).1
        have htk : (rs.set k (stepC ⟨s.ref, s.n, j⟩)).take (k + 1) = (ws.take k).map stepC ++ [stepC ⟨s.ref, s.n, j⟩] := by
          have h1 : rs.take k = (ws.take k).map stepC := by
            rcases g2 with ⟨h, _⟩ | ⟨id', rs', h, h2, h3⟩
            · cases h
            · simp only [AV.sl.injEq] at h
              obtain ⟨rfl, _⟩ := h
              rw [e2] at h2
              cases h2
              have := congrArg (List.take k) h3
              rw [List.take_take, Nat.min_eq_left (by omega), ← List.map_take] at this
              exact this
          rw [List.take_succ_eq_append_getElem (by simpa using hrsl), List.take_set_of_le (Nat.le_refl _), h1]
          simp
        have cur3 : Cur K3 cid sv root (.sl id 0 (k + 1)) (ws.take k ++ [⟨s.ref, s.n, j⟩]) := by
          have hl : (ws.take k ++ [(⟨s.ref, s.n, j⟩ : StepM)]).length = k + 1 := by simp; omega
          exact ⟨gc3, .inr ⟨id, _, by rw [hl], gr3, by rw [hl, htk, List.map_append]; rfl⟩⟩
        have hwx := wayX_spec (edgeK (decide (by_ < 0))) hv.ok hv.tiny (fun n a b c => edge_rng _ n a b c) 12 (s.n.kids[j]).ref [] ⟨by simp, by simp⟩ rfl
        change okCs (wayX (edgeK (decide (by_ < 0))) nd s.n.kids[j].ref).1 ∧ ((wayX (edgeK (decide (by_ < 0))) nd s.n.kids[j].ref).2 = 0 → (wayX (edgeK (decide (by_ < 0))) nd s.n.kids[j].ref).1 ≠ []) ∧ (wayX (edgeK (decide (by_ < 0))) nd s.n.kids[j].ref).1.length ≤ 12 at hwx
        generalize wayX (edgeK (decide (by_ < 0))) nd s.n.kids[j].ref = p at hT hwx
        obtain ⟨bl, er_⟩ := p
        obtain ⟨q1, q2, q3⟩ := hwx
        simp only at hT q1 q2 q3
        have lw3 := Heap.get_lt gc3
        have oc3 := get_old gc3
        cases e4 : (er_ != 0) with
        | true =>
          have e4' : er_ ≠ 0 := by simpa using e4
          rw [if_pos e4'] at hT
          simp only [↓vp, vq0, vq1, vq2, vq3, vr0, vr1, vr2, vr3, vr4, vr5, vr6, vr7, vr8, vr9, vr10, vr11, vr12, vr13, vr14, vr15, vr16, vr17, vr18, vr19, vr20, vr21, vr22, vr23, vr24, vr25, vr26, vr27, vr28, vr29, vr30, vr31, vr32, vr33, vr34, opS, fpS, okP, pack, nAl, allocA, shId, leaves, fillA, fillR, splice, Nat.reduceLT, Nat.reduceEqDiff, Nat.reduceLeDiff, Nat.reduceAdd, Nat.reduceSub, Nat.reduceMul, Int.reduceBEq, Int.reduceBNe, Int.reduceLT, Int.reduceLE, Int.reduceEq, reduceIte, reduceCtorEq, da, int, boolA, f0, f1, f4, e4]
          refine KW_ex (s60 hX.1 hv.one (cur3.hx _) er_) fun H' hP' => ?_
          obtain ⟨p1, p2⟩ := hP'
          have k4 := (KeepC.hx (X := X) lw3 [.box false (stepC s)]).trans p2
          have ho3 : ¬ OwnC K3 cid rid := fun h => by rcases own3 _ h with h | h; exact hrid1 h; exact hrid2 h
          have gq4 := k4.old _ _ gq3 ho3 hridX
          have ho4 : ¬ OwnC H' cid rid := fun h => by
            rcases k4.own _ h with h | h
            · exact ho3 h
            · have := Heap.get_lt gq3; omega
          obtain ⟨t1, t2, t3⟩ := tail_box gq4
          rw [← hx_nil H']
          unfold ansV
          simp only [itemN] at t1
          simp only [↓vp, vq0, vq1, vq2, vq3, vr0, vr1, vr2, vr3, vr4, vr5, vr6, vr7, vr8, vr9, vr10, vr11, vr12, vr13, vr14, vr15, vr16, vr17, vr18, vr19, vr20, vr21, vr22, vr23, vr24, vr25, vr26, vr27, vr28, vr29, vr30, vr31, vr32, vr33, vr34, opS, fpS, okP, pack, nAl, allocA, shId, leaves, fillA, fillR, splice, Nat.reduceLT, Nat.reduceEqDiff, Nat.reduceLeDiff, Nat.reduceAdd, Nat.reduceSub, Nat.reduceMul, Int.reduceBEq, Int.reduceBNe, Int.reduceLT, Int.reduceLE, Int.reduceEq, reduceIte, reduceCtorEq, da, int, boolA, f4, ir_one, ir_len, ir_take, t1, t2, t3, cells_sc]
          refine hret _ (H'.set rid _) (.sc (.slice none 0 0)) (by rw [hT]; exact cur_set p1 ho4 _) (keep_set (kk3.trans k4) hrid ho4 _) (by rw [Heap.get_set_self _ (Heap.get_lt gq4), hT]) ?_ ?_ ?_ <;> simp only [↓vp, vq0, vq1, vq2, vq3, vr0, vr1, vr2, vr3, vr4, vr5, vr6, vr7, vr8, vr9, vr10, vr11, vr12, vr13, vr14, vr15, vr16, vr17, vr18, vr19, vr20, vr21, vr22, vr23, vr24, vr25, vr26, vr27, vr28, vr29, vr30, vr31, vr32, vr33, vr34, opS, fpS, okP, pack, nAl, allocA, shId, leaves, fillA, fillR, splice, Nat.reduceLT, Nat.reduceEqDiff, Nat.reduceLeDiff, Nat.reduceAdd, Nat.reduceSub, Nat.reduceMul, Int.reduceBEq, Int.reduceBNe, Int.reduceLT, Int.reduceLE, Int.reduceEq, reduceIte, reduceCtorEq, da, int, boolA, f4, hT]
        | false =>
          have e4' : er_ = 0 := by simpa using e4
          subst e4'
          rw [if_neg (by simp)] at hT
          obtain ⟨q1a, q1b⟩ := q1
          have q2' := q2 rfl
          have hr : ∀ H, rowsOf H (encS bl) = some (bl.map stepC) := fun _ => rfl
          have lid3 := Heap.get_lt gr3
          have or3 := get_old gr3
          have sr3 : ∀ L b, (hx K3 L).set id b = hx (K3.set id b) L := fun L b => hx_set_old K3 L b id lid3
          have hb3 : (k + (1 + bl.length)) * 72 ≤ 140737488355328 := by omega
          have hrl : k + 1 ≤ rs.length := hrsl
          have hz3 := szS bl
          have sc3 : ∀ L b, (hx (K3.set id .dead) L).set cid b = hx ((K3.set id .dead).set cid b) L := fun L b => hx_set_old _ L b cid (by simpa using lw3)
          have gc3' : ∀ L, (hx (K3.set id .dead) L).get cid = some (.box false [sv, int root, .sl id 0 (k + 1)]) := fun L => by
            rw [hx_get_old _ _ _ (by simpa using lw3), Heap.get_set_ne _ (Ne.symm hne), gc3]
          simp only [↓vp, vq0, vq1, vq2, vq3, vr0, vr1, vr2, vr3, vr4, vr5, vr6, vr7, vr8, vr9, vr10, vr11, vr12, vr13, vr14, vr15, vr16, vr17, vr18, vr19, vr20, vr21, vr22, vr23, vr24, vr25, vr26, vr27, vr28, vr29, vr30, vr31, vr32, vr33, vr34, opS, fpS, okP, pack, nAl, allocA, shId, leaves, fillA, fillR, splice, Nat.reduceLT, Nat.reduceEqDiff, Nat.reduceLeDiff, Nat.reduceAdd, Nat.reduceSub, Nat.reduceMul, Int.reduceBEq, Int.reduceBNe, Int.reduceLT, Int.reduceLE, Int.reduceEq, reduceIte, reduceCtorEq, da, int, boolA, f0, f1, f4, oc3, gc3', hr, or3, sr3, hb3, hrl, hz3, htk, sc3, n3, cells_sl, List.length_set]
          have hlen4 : (ws.take k ++ (⟨s.ref, s.n, (j : Int)⟩ : StepM) :: bl).length = k + (1 + bl.length) := by simp; omega
          have hok4 : okCs (ws.take k ++ (⟨s.ref, s.n, (j : Int)⟩ : StepM) :: bl) := ⟨fun x hx => by
            rcases List.mem_append.1 hx with h | h
            · exact hws.1 x (List.mem_of_mem_take h)
            · rcases List.mem_cons.1 h with rfl | h
              · exact ⟨o1, o2, o3, by simp only; omega, by simp only; omega⟩
              · exact q1a x h, by rw [hlen4]; omega⟩
          have kk4 : KeepC cid X K3 (hx ((K3.set id .dead).set cid (.box false [sv, .sc (.int .i64 root), .sl (K.next + 1) 0 (k + (1 + bl.length))])) [.box false (stepC s), .row false 5 (((ws.take k).map stepC ++ [stepC ⟨s.ref, s.n, j⟩]) ++ bl.map stepC)]) := by
            refine ((KeepC.row (.inr ⟨sv, int root, 0, k + 1, gc3⟩) hidX hne .dead).trans (KeepC.box (by simpa using lw3) hX.1 sv (int root) (.sl (K.next + 1) 0 (k + (1 + bl.length))) (fun i' o l h => ?_))).trans (KeepC.hx (by simpa using lw3) _)
            cases h
            right
            rw [Heap.next_set, n3]
            omega
          generalize hK4 : Heap.set (Heap.set K3 id .dead) cid _ = K4 at *
          have n4 : K4.next = K.next := by rw [← hK4]; simp [n3]
          have cur4 : Cur (hx K4 [.box false (stepC s), .row false 5 (((ws.take k).map stepC ++ [stepC ⟨s.ref, s.n, j⟩]) ++ bl.map stepC)]) cid sv root (.sl (K.next + 1) 0 (k + (1 + bl.length))) (ws.take k ++ ⟨s.ref, s.n, (j : Int)⟩ :: bl) := by
            refine ⟨get_old (by rw [← hK4, Heap.get_set_self _ (by simpa using lw3)]; rfl) _, .inr ⟨K.next + 1, ((ws.take k).map stepC ++ [stepC ⟨s.ref, s.n, j⟩]) ++ bl.map stepC, by rw [hlen4], ?_, ?_⟩⟩
            · have := hx_get K4 [.box false (stepC s), .row false 5 (((ws.take k).map stepC ++ [stepC ⟨s.ref, s.n, j⟩]) ++ bl.map stepC)] 1
              rw [n4] at this
              rw [this]
              rfl
            · rw [List.take_of_length_le (by first | (simp; done) | (simp; omega))]
              simp
          obtain ⟨H', lv', r1, p1, p2⟩ := s63 hX.1 hv.one cur4 hok4
          refine KW_ex (P := fun G => Cur G cid sv root lv' (hereM (ws.take k ++ ⟨s.ref, s.n, (j : Int)⟩ :: bl)).2 ∧ KeepC cid X _ G) ⟨H', r1, p1, p2⟩ fun H' hP' => ?_
          obtain ⟨p1, p2⟩ := hP'
          have k4 := kk4.trans p2
          have ho3 : ¬ OwnC K3 cid rid := fun h => by rcases own3 _ h with h | h; exact hrid1 h; exact hrid2 h
          have gq4 := k4.old _ _ gq3 ho3 hridX
          have ho4 : ¬ OwnC H' cid rid := fun h => by
            rcases k4.own _ h with h | h
            · exact ho3 h
            · have := Heap.get_lt gq3; omega
          obtain ⟨t1, t2, t3⟩ := tail_box gq4
          rw [← hx_nil H']
          unfold ansV
          simp only [itemN] at t1
          simp only [↓vp, vq0, vq1, vq2, vq3, vr0, vr1, vr2, vr3, vr4, vr5, vr6, vr7, vr8, vr9, vr10, vr11, vr12, vr13, vr14, vr15, vr16, vr17, vr18, vr19, vr20, vr21, vr22, vr23, vr24, vr25, vr26, vr27, vr28, vr29, vr30, vr31, vr32, vr33, vr34, opS, fpS, okP, pack, nAl, allocA, shId, leaves, fillA, fillR, splice, Nat.reduceLT, Nat.reduceEqDiff, Nat.reduceLeDiff, Nat.reduceAdd, Nat.reduceSub, Nat.reduceMul, Int.reduceBEq, Int.reduceBNe, Int.reduceLT, Int.reduceLE, Int.reduceEq, reduceIte, reduceCtorEq, da, int, boolA, f4, ir_one, ir_len, ir_take, t1, t2, t3, cells_sc]
          refine hret _ (H'.set rid _) lv' (by rw [hT]; exact cur_set p1 ho4 _) (keep_set (kk3.trans k4) hrid ho4 _) (by rw [Heap.get_set_self _ (Heap.get_lt gq4), hT]) ?_ ?_ ?_ <;> simp only [↓vp, vq0, vq1, vq2, vq3, vr0, vr1, vr2, vr3, vr4, vr5, vr6, vr7, vr8, vr9, vr10, vr11, vr12, vr13, vr14, vr15, vr16, vr17, vr18, vr19, vr20, vr21, vr22, vr23, vr24, vr25, vr26, vr27, vr28, vr29, vr30, vr31, vr32, vr33, vr34, opS, fpS, okP, pack, nAl, allocA, shId, leaves, fillA, fillR, splice, Nat.reduceLT, Nat.reduceEqDiff, Nat.reduceLeDiff, Nat.reduceAdd, Nat.reduceSub, Nat.reduceMul, Int.reduceBEq, Int.reduceBNe, Int.reduceLT, Int.reduceLE, Int.reduceEq, reduceIte, reduceCtorEq, da, int, boolA, f4, hT]
theorem s62 {X : List Nat} {nd : Int → NodeM × Int} {sv : AV} {P : Heap → Prop} (hv : SrcV X nd sv P) {H : Heap} {cid : Nat} {root : Int} {lv : AV} {ws : List StepM} (hX : cid ∉ X ∧ ∀ x ∈ X, x < H.next) (hP : P H) (hc : Cur H cid sv root lv ws) (hws : okCs ws) (hwl9 : ws.length ≤ 999000000) (h0 : ws ≠ [])
    (by_ : Int) (hb : by_ = 1 ∨ by_ = -1) :
    ∃ H', callL ft (.fn (.func 62) [] []) [.ptr cid 0 0, int by_] H = some (ansV (besideM nd by_ ws).1, H') ∧ ∃ lv', Cur H' cid sv root lv' (besideM nd by_ ws).2 ∧ KeepC cid X H H' := by
  refine call_oE rfl (by simp) ?_
  have g1 := hc.1
  have ow := get_old g1
  have lw := Heap.get_lt g1
  have ll := fun L => hc.2.len (hx H L)
  obtain ⟨m, hm⟩ : ∃ m, ws.length = m + 1 := ⟨ws.length - 1, by have := List.length_pos_iff.2 h0; omega⟩
  have w2 : IntKind.i64.wrap ((ws.length : Int) - 2) = ((m : Nat) : Int) - 1 := by rw [wrap_i64 (by omega)]; omega
  unfold c62 r62
  simp only [↓vp, vq0, vq1, vq2, vq3, vr0, vr1, vr2, vr3, vr4, vr5, vr6, vr7, vr8, vr9, vr10, vr11, vr12, vr13, vr14, vr15, vr16, vr17, vr18, vr19, vr20, vr21, vr22, vr23, vr24, vr25, vr26, vr27, vr28, vr29, vr30, vr31, vr32, vr33, vr34, opS, fpS, okP, pack, nAl, allocA, shId, leaves, fillA, fillR, splice, Nat.reduceLT, Nat.reduceEqDiff, Nat.reduceLeDiff, Nat.reduceAdd, Nat.reduceSub, Nat.reduceMul, Int.reduceBEq, Int.reduceBNe, Int.reduceLT, Int.reduceLE, Int.reduceEq, reduceIte, reduceCtorEq, da, int, boolA, ow, ll, w2]
  rw [← hx_nil (hx _ _)]
  have hT : besideM nd by_ ws = bsdM nd by_ ws m := by unfold besideM; rw [hm]; rfl
  have hq0 : (hx H [.box false itemN]).get H.next = some (.box false itemN) := by rw [hx_get0]; rfl
  refine l62 hv hX hws hwl9 by_ hb H.next (Nat.le_refl _) (besideM nd by_ ws) (fun f' K hT hP' hc' hk' hr' ho' hg' e0 e4 => ?_) (fun f' K lv' hc' hk' hg' e4 e5 e6 => ?_) m (hx H [.box false itemN]) _ (by omega) hT (hv.st _ _ hP fun id _ fz c h => ⟨fz, get_old h _⟩) (hc.hx _) (KeepC.hx lw _) (by rw [hx_next]; simp) (fun h => by have := own_lt hc (own_hx lw h); omega) hq0 ?_ ?_ ?_ ?_
  · unfold c62R1
    simp only [↓vp, vq0, vq1, vq2, vq3, vr0, vr1, vr2, vr3, vr4, vr5, vr6, vr7, vr8, vr9, vr10, vr11, vr12, vr13, vr14, vr15, vr16, vr17, vr18, vr19, vr20, vr21, vr22, vr23, vr24, vr25, vr26, vr27, vr28, vr29, vr30, vr31, vr32, vr33, vr34, opS, fpS, okP, pack, nAl, allocA, shId, leaves, fillA, fillR, splice, Nat.reduceLT, Nat.reduceEqDiff, Nat.reduceLeDiff, Nat.reduceAdd, Nat.reduceSub, Nat.reduceMul, Int.reduceBEq, Int.reduceBNe, Int.reduceLT, Int.reduceLE, Int.reduceEq, reduceIte, reduceCtorEq, da, int, boolA, e0, e4]
    refine KW_ex (s60 hX.1 hv.one (hc'.hx _) 0) fun H' hP' => ?_
    obtain ⟨p1, p2⟩ := hP'
    rw [hx_nil] at p2
    have gq4 := p2.old _ _ hg' ho' (fun h => by have := hX.2 _ h; omega)
    have ho4 : ¬ OwnC H' cid H.next := fun h => by
      rcases p2.own _ h with h | h
      · exact ho' h
      · omega
    obtain ⟨t1, t2, t3⟩ := tail_box gq4
    rw [← hx_nil H']
    unfold ansV
    simp only [itemN] at t1
    simp only [↓vp, vq0, vq1, vq2, vq3, vr0, vr1, vr2, vr3, vr4, vr5, vr6, vr7, vr8, vr9, vr10, vr11, vr12, vr13, vr14, vr15, vr16, vr17, vr18, vr19, vr20, vr21, vr22, vr23, vr24, vr25, vr26, vr27, vr28, vr29, vr30, vr31, vr32, vr33, vr34, opS, fpS, okP, pack, nAl, allocA, shId, leaves, fillA, fillR, splice, Nat.reduceLT, Nat.reduceEqDiff, Nat.reduceLeDiff, Nat.reduceAdd, Nat.reduceSub, Nat.reduceMul, Int.reduceBEq, Int.reduceBNe, Int.reduceLT, Int.reduceLE, Int.reduceEq, reduceIte, reduceCtorEq, da, int, boolA, e4, ir_one, ir_len, ir_take, t1, t2, t3, RetE_go, resT, resC, resN, retV3, cells_sc, hT]
    rw [hx_nil]
    exact ⟨_, cur_set p1 ho4 _, keep_set (hk'.trans p2) (Nat.le_refl _) ho4 _⟩
  · have o := get_old hg'
    unfold ansV
    simp only [↓vp, vq0, vq1, vq2, vq3, vr0, vr1, vr2, vr3, vr4, vr5, vr6, vr7, vr8, vr9, vr10, vr11, vr12, vr13, vr14, vr15, vr16, vr17, vr18, vr19, vr20, vr21, vr22, vr23, vr24, vr25, vr26, vr27, vr28, vr29, vr30, vr31, vr32, vr33, vr34, opS, fpS, okP, pack, nAl, allocA, shId, leaves, fillA, fillR, splice, Nat.reduceLT, Nat.reduceEqDiff, Nat.reduceLeDiff, Nat.reduceAdd, Nat.reduceSub, Nat.reduceMul, Int.reduceBEq, Int.reduceBNe, Int.reduceLT, Int.reduceLE, Int.reduceEq, reduceIte, reduceCtorEq, da, int, boolA, e4, e5, e6, o, ir_len, ir_take, RetE_go, resT, resC, resN, retV3]
    rw [hx_nil]
    exact ⟨lv', hc', hk'⟩
  all_goals first | rfl | (simp only [↓vp, vq0, vq1, vq2, vq3, vr0, vr1, vr2, vr3, vr4, vr5, vr6, vr7, vr8, vr9, vr10, vr11, vr12, vr13, vr14, vr15, vr16, vr17, vr18, vr19, vr20, vr21, vr22, vr23, vr24, vr25, vr26, vr27, vr28, vr29, vr30, vr31, vr32, vr33, vr34, opS, fpS, okP, pack, nAl, allocA, shId, leaves, fillA, fillR, splice, Nat.reduceLT, Nat.reduceEqDiff, Nat.reduceLeDiff, Nat.reduceAdd, Nat.reduceSub, Nat.reduceMul, Int.reduceBEq, Int.reduceBNe, Int.reduceLT, Int.reduceLE, Int.reduceEq, reduceIte, reduceCtorEq, da, int, boolA]; done) | (simp only [↓vp, vq0, vq1, vq2, vq3, vr0, vr1, vr2, vr3, vr4, vr5, vr6, vr7, vr8, vr9, vr10, vr11, vr12, vr13, vr14, vr15, vr16, vr17, vr18, vr19, vr20, vr21, vr22, vr23, vr24, vr25, vr26, vr27, vr28, vr29, vr30, vr31, vr32, vr33, vr34, opS, fpS, okP, pack, nAl, allocA, shId, leaves, fillA, fillR, splice, Nat.reduceLT, Nat.reduceEqDiff, Nat.reduceLeDiff, Nat.reduceAdd, Nat.reduceSub, Nat.reduceMul, Int.reduceBEq, Int.reduceBNe, Int.reduceLT, Int.reduceLE, Int.reduceEq, reduceIte, reduceCtorEq, da, int, boolA]; rfl)
end Go.VI

set_option linter.unusedVariables false
set_option linter.unusedSimpArgs false
set_option maxRecDepth 100000
namespace Go.VI
attribute [local congr] AW_congr OW_congr DW_congr NW_congr VW_congr GW_congr PW_congr KW_congr ite_congr' GV_congr CV_congr
def moveM (nd : Int → NodeM × Int) (by_ : Int) (ws : List StepM) : Ans × List StepM :=
  match ws.getLast? with
  | none => (((nilI, false), 0), [])
  | some s => if s.k + by_ < 0 ∨ (s.n.items.length : Int) ≤ s.k + by_ then besideM nd by_ (ws.dropLast ++ [⟨s.ref, s.n, s.k + by_⟩])
    else (((hereM (ws.dropLast ++ [⟨s.ref, s.n, s.k + by_⟩])).1, 0), (hereM (ws.dropLast ++ [⟨s.ref, s.n, s.k + by_⟩])).2)
/-- Behind a call on a cursor: the box that was laid ahead of it. -/
theorem tailC {X : List Nat} {K H' : Heap} {cid : Nat} {sv lv : AV} {root : Int} {ws : List StepM} (hc : Cur K cid sv root lv ws) (lw : cid < K.next) {b : Blk} (hK : KeepC cid X (hx K [b]) H') (hX2 : K.next ∉ X) : H'.get K.next = some b ∧ ¬ OwnC H' cid K.next := by
  have h1 : ¬ OwnC (hx K [b]) cid K.next := fun h => by have := own_lt hc (own_hx lw h); omega
  refine ⟨hK.old _ _ (by rw [hx_get0]; rfl) h1 hX2, fun h => ?_⟩
  rcases hK.own _ h with h | h
  · exact h1 h
  · rw [hx_next] at h; simp at h; omega
theorem s59 {X : List Nat} {nd : Int → NodeM × Int} {sv : AV} {P : Heap → Prop} (hv : SrcV X nd sv P) {H : Heap} {cid : Nat} {root : Int} {lv : AV} {ws : List StepM} (hX : cid ∉ X ∧ ∀ x ∈ X, x < H.next) (hP : P H) (hc : Cur H cid sv root lv ws) (hws : okCs ws) (hwl9 : ws.length ≤ 999000000) (h0 : ws ≠ [])
    (hkl : ∀ s, ws.getLast? = some s → 0 ≤ s.k ∧ s.k ≤ 1000) (by_ : Int) (hb : by_ = 1 ∨ by_ = -1) :
    ∃ H', callL ft (.fn (.func 59) [] []) [.ptr cid 0 0, int by_] H = some (ansV (moveM nd by_ ws).1, H') ∧ ∃ lv', Cur H' cid sv root lv' (moveM nd by_ ws).2 ∧ KeepC cid X H H' := by
  refine call_oE rfl (by simp) ?_
  obtain ⟨m, hm⟩ : ∃ m, ws.length = m + 1 := ⟨ws.length - 1, by have := List.length_pos_iff.2 h0; omega⟩
  have hlast := getLast_at hm
  obtain ⟨id, rs, e1, e2, e3⟩ := hc.2.at (i := m) (by omega)
  have hs := hws.1 _ (List.getElem_mem (show m < ws.length by omega))
  have hkl' := hkl _ hlast
  have hsp : ws = ws.dropLast ++ [ws[m]'(by omega)] := by
    rw [List.dropLast_eq_take, show ws.length - 1 = m by omega, ← List.take_succ_eq_append_getElem, List.take_of_length_le (by omega)]
  have hcur := hc
  obtain ⟨g1, g2⟩ := hc
  generalize hsk : ws[m]'(by omega) = s at hlast hs hkl' hsp e3
  obtain ⟨o1, o2, o3, o4, o5⟩ := hs
  have hM : moveM nd by_ ws = if s.k + by_ < 0 ∨ (s.n.items.length : Int) ≤ s.k + by_ then besideM nd by_ (ws.dropLast ++ [⟨s.ref, s.n, s.k + by_⟩])
    else (((hereM (ws.dropLast ++ [⟨s.ref, s.n, s.k + by_⟩])).1, 0), (hereM (ws.dropLast ++ [⟨s.ref, s.n, s.k + by_⟩])).2) := by
    unfold moveM; rw [hlast]
  rw [hM]
  have ow := get_old g1
  have lw := Heap.get_lt g1
  have lid := Heap.get_lt e2
  rw [hm] at e1
  subst e1
  have w1 : IntKind.i64.wrap (s.k + by_) = s.k + by_ := wrap_i64 (by rcases hb with rfl | rfl <;> omega)
  have w0 := wrap_pred (show m < 9223372036854775807 by omega)
  have er := fun L => get_old e2 L
  have ea := fun L => iaddr_sl (er L) (i := m) (len := m + 1) (by omega)
  have ec := fun L off n => cells_row (er L) e3 off n
  have lS : (stepC s).length = 5 := rfl
  have pid := fun L b => hx_set_old H L b id lid
  have hne : id ≠ cid := fun e => by rw [e, g1] at e2; cases e2
  have hidX : id ∉ X := fun h => by obtain ⟨fz, c, h⟩ := hv.bx H hP id h; rw [e2] at h; cases h
  have hown : OwnC H cid id := .inr ⟨_, _, _, _, g1⟩
  have hrsl : m < rs.length := (List.getElem?_eq_some_iff.1 e3).1
  have hdl : ws.dropLast.length = m := by simp; omega
  have hl2 : (ws.dropLast ++ [(⟨s.ref, s.n, s.k + by_⟩ : StepM)]).length = m + 1 := by simp; omega
  have hok2 : okCs (ws.dropLast ++ [⟨s.ref, s.n, s.k + by_⟩]) := ⟨fun x hx => by
    rcases List.mem_append.1 hx with h | h
    · exact hws.1 x ((List.dropLast_subset ws) h)
    · rw [List.mem_singleton.1 h]
      exact ⟨o1, o2, o3, by simp only; rcases hb with rfl | rfl <;> omega, by simp only; rcases hb with rfl | rfl <;> omega⟩, by rw [hl2]; omega⟩
  have kk : KeepC cid X H (H.set id (.row false 5 (rs.set m (stepC ⟨s.ref, s.n, s.k + by_⟩)))) := KeepC.row hown hidX hne _
  have cur1 : Cur (H.set id (.row false 5 (rs.set m (stepC ⟨s.ref, s.n, s.k + by_⟩)))) cid sv root (.sl id 0 (m + 1)) (ws.dropLast ++ [⟨s.ref, s.n, s.k + by_⟩]) := by
    refine ⟨by rw [Heap.get_set_ne _ (Ne.symm hne)]; exact g1, .inr ⟨id, _, by rw [hl2], by rw [Heap.get_set_self _ lid], ?_⟩⟩
    rw [hl2, List.take_succ_eq_append_getElem (by simpa using hrsl), List.take_set_of_le (Nat.le_refl _), List.map_append]
    have h1 : rs.take m = ws.dropLast.map stepC := by
      rcases g2 with ⟨h, _⟩ | ⟨id', rs', h, h2, h3⟩
      · cases h
      · simp only [AV.sl.injEq] at h
        obtain ⟨rfl, _⟩ := h
        rw [e2] at h2
        cases h2
        have := congrArg (List.take m) h3
        rw [List.take_take, Nat.min_eq_left (by omega), ← List.map_take] at this
        rw [this, List.dropLast_eq_take, show ws.length - 1 = m by omega]
    rw [h1]
    simp
  have or1 : ∀ L, (hx (H.set id (.row false 5 (rs.set m (stepC ⟨s.ref, s.n, s.k + by_⟩)))) L).get id = some (.row false 5 (rs.set m (stepC ⟨s.ref, s.n, s.k + by_⟩))) := fun L => by
    rw [hx_get_old _ _ _ (by simpa using lid), Heap.get_set_self _ lid]
  have ec1 := fun L off n => cells_row (or1 L) (show (rs.set m (stepC ⟨s.ref, s.n, s.k + by_⟩))[m]? = some (stepC ⟨s.ref, s.n, s.k + by_⟩) by simp [hrsl]) off n
  have lS1 : (stepC ⟨s.ref, s.n, s.k + by_⟩).length = 5 := rfl
  have P1 : ∀ L, P (hx (H.set id (.row false 5 (rs.set m (stepC ⟨s.ref, s.n, s.k + by_⟩)))) L) := fun L => hv.st _ _ hP fun i hi fz c h => by
    obtain ⟨fz', h'⟩ := kk.bx i hi fz c h
    exact ⟨fz', get_old h' L⟩
  unfold c59 r59
  by_cases c1 : s.k + by_ < 0 ∨ (s.n.items.length : Int) ≤ s.k + by_
  · rw [if_pos c1]
    have hcall := s62 hv (H := hx (H.set id (.row false 5 (rs.set m (stepC ⟨s.ref, s.n, s.k + by_⟩)))) [.box false itemN]) ⟨hX.1, fun x hx => by have := hX.2 x hx; rw [hx_next]; simp; omega⟩ (P1 _) (cur1.hx _) hok2 (by rw [hl2]; omega) (by simp) by_ hb
    by_cases c2 : s.k + by_ < 0
    · simp only [↓vp, vq0, vq1, vq2, vq3, vr0, vr1, vr2, vr3, vr4, vr5, vr6, vr7, vr8, vr9, vr10, vr11, vr12, vr13, vr14, vr15, vr16, vr17, vr18, vr19, vr20, vr21, vr22, vr23, vr24, vr25, vr26, vr27, vr28, vr29, vr30, vr31, vr32, vr33, vr34, opS, fpS, okP, pack, nAl, allocA, shId, leaves, fillA, fillR, splice, Nat.reduceLT, Nat.reduceEqDiff, Nat.reduceLeDiff, Nat.reduceAdd, Nat.reduceSub, Nat.reduceMul, Int.reduceBEq, Int.reduceBNe, Int.reduceLT, Int.reduceLE, Int.reduceEq, reduceIte, reduceCtorEq, da, int, boolA, ow, er, ea, ec, lS, pid, hm, g2.len, w0, w1, e3, st_take4, st_drop5, st_fold, or1, ec1, lS1, c2]
      refine KW_ex hcall fun H' hP' => ?_
      obtain ⟨lv', p1, p2⟩ := hP'
      have q := tailC cur1 (by simpa using lw) p2 (fun h => by have := hX.2 _ h; simp at this)
      obtain ⟨gq4, ho4⟩ := q
      rw [Heap.next_set] at gq4 ho4
      obtain ⟨t1, t2, t3⟩ := tail_box gq4
      rw [← hx_nil H']
      unfold ansV
      simp only [itemN] at t1
      simp only [↓vp, vq0, vq1, vq2, vq3, vr0, vr1, vr2, vr3, vr4, vr5, vr6, vr7, vr8, vr9, vr10, vr11, vr12, vr13, vr14, vr15, vr16, vr17, vr18, vr19, vr20, vr21, vr22, vr23, vr24, vr25, vr26, vr27, vr28, vr29, vr30, vr31, vr32, vr33, vr34, opS, fpS, okP, pack, nAl, allocA, shId, leaves, fillA, fillR, splice, Nat.reduceLT, Nat.reduceEqDiff, Nat.reduceLeDiff, Nat.reduceAdd, Nat.reduceSub, Nat.reduceMul, Int.reduceBEq, Int.reduceBNe, Int.reduceLT, Int.reduceLE, Int.reduceEq, reduceIte, reduceCtorEq, da, int, boolA, ir_one, ir_len, ir_take, t1, t2, t3, RetE_go, resT, resC, resN, retV3, cells_sc]
      rw [hx_nil]
      exact ⟨_, cur_set p1 ho4 _, keep_set ((kk.trans (KeepC.hx (by simpa using lw) _)).trans p2) (Nat.le_refl _) ho4 _⟩
    · have c3 : ((s.n.items.length : Int) ≤ s.k + by_) := by omega
      simp only [↓vp, vq0, vq1, vq2, vq3, vr0, vr1, vr2, vr3, vr4, vr5, vr6, vr7, vr8, vr9, vr10, vr11, vr12, vr13, vr14, vr15, vr16, vr17, vr18, vr19, vr20, vr21, vr22, vr23, vr24, vr25, vr26, vr27, vr28, vr29, vr30, vr31, vr32, vr33, vr34, opS, fpS, okP, pack, nAl, allocA, shId, leaves, fillA, fillR, splice, Nat.reduceLT, Nat.reduceEqDiff, Nat.reduceLeDiff, Nat.reduceAdd, Nat.reduceSub, Nat.reduceMul, Int.reduceBEq, Int.reduceBNe, Int.reduceLT, Int.reduceLE, Int.reduceEq, reduceIte, reduceCtorEq, da, int, boolA, ow, er, ea, ec, lS, pid, hm, g2.len, w0, w1, e3, st_take4, st_drop5, st_fold, or1, ec1, lS1, c2, c3]
      refine KW_ex hcall fun H' hP' => ?_
      obtain ⟨lv', p1, p2⟩ := hP'
      have q := tailC cur1 (by simpa using lw) p2 (fun h => by have := hX.2 _ h; simp at this)
      obtain ⟨gq4, ho4⟩ := q
      rw [Heap.next_set] at gq4 ho4
      obtain ⟨t1, t2, t3⟩ := tail_box gq4
      rw [← hx_nil H']
      unfold ansV
      simp only [itemN] at t1
      simp only [↓vp, vq0, vq1, vq2, vq3, vr0, vr1, vr2, vr3, vr4, vr5, vr6, vr7, vr8, vr9, vr10, vr11, vr12, vr13, vr14, vr15, vr16, vr17, vr18, vr19, vr20, vr21, vr22, vr23, vr24, vr25, vr26, vr27, vr28, vr29, vr30, vr31, vr32, vr33, vr34, opS, fpS, okP, pack, nAl, allocA, shId, leaves, fillA, fillR, splice, Nat.reduceLT, Nat.reduceEqDiff, Nat.reduceLeDiff, Nat.reduceAdd, Nat.reduceSub, Nat.reduceMul, Int.reduceBEq, Int.reduceBNe, Int.reduceLT, Int.reduceLE, Int.reduceEq, reduceIte, reduceCtorEq, da, int, boolA, ir_one, ir_len, ir_take, t1, t2, t3, RetE_go, resT, resC, resN, retV3, cells_sc]
      rw [hx_nil]
      exact ⟨_, cur_set p1 ho4 _, keep_set ((kk.trans (KeepC.hx (by simpa using lw) _)).trans p2) (Nat.le_refl _) ho4 _⟩
  · rw [if_neg c1]
    have c2 : ¬ (s.k + by_ < 0) := by omega
    have c3 : ¬ ((s.n.items.length : Int) ≤ s.k + by_) := by omega
    have hcall : ∃ H', callL ft (.fn (.func 63) [] []) [.ptr cid 0 0] (hx (H.set id (.row false 5 (rs.set m (stepC ⟨s.ref, s.n, s.k + by_⟩)))) [.box false itemN]) = some (ansV ((hereM (ws.dropLast ++ [⟨s.ref, s.n, s.k + by_⟩])).1, 0), H') ∧ ∃ lv', Cur H' cid sv root lv' (hereM (ws.dropLast ++ [⟨s.ref, s.n, s.k + by_⟩])).2 ∧ KeepC cid X (hx (H.set id (.row false 5 (rs.set m (stepC ⟨s.ref, s.n, s.k + by_⟩)))) [.box false itemN]) H' := by
      obtain ⟨H', lv', a, b, c⟩ := s63 hX.1 hv.one (cur1.hx [.box false itemN]) hok2
      exact ⟨H', a, lv', b, c⟩
    simp only [↓vp, vq0, vq1, vq2, vq3, vr0, vr1, vr2, vr3, vr4, vr5, vr6, vr7, vr8, vr9, vr10, vr11, vr12, vr13, vr14, vr15, vr16, vr17, vr18, vr19, vr20, vr21, vr22, vr23, vr24, vr25, vr26, vr27, vr28, vr29, vr30, vr31, vr32, vr33, vr34, opS, fpS, okP, pack, nAl, allocA, shId, leaves, fillA, fillR, splice, Nat.reduceLT, Nat.reduceEqDiff, Nat.reduceLeDiff, Nat.reduceAdd, Nat.reduceSub, Nat.reduceMul, Int.reduceBEq, Int.reduceBNe, Int.reduceLT, Int.reduceLE, Int.reduceEq, reduceIte, reduceCtorEq, da, int, boolA, ow, er, ea, ec, lS, pid, hm, g2.len, w0, w1, e3, st_take4, st_drop5, st_fold, or1, ec1, lS1, c2, c3]
    refine KW_ex hcall fun H' hP' => ?_
    obtain ⟨lv', p1, p2⟩ := hP'
    have q := tailC cur1 (by simpa using lw) p2 (fun h => by have := hX.2 _ h; simp at this)
    obtain ⟨gq4, ho4⟩ := q
    rw [Heap.next_set] at gq4 ho4
    obtain ⟨t1, t2, t3⟩ := tail_box gq4
    rw [← hx_nil H']
    unfold ansV
    simp only [itemN] at t1
    simp only [↓vp, vq0, vq1, vq2, vq3, vr0, vr1, vr2, vr3, vr4, vr5, vr6, vr7, vr8, vr9, vr10, vr11, vr12, vr13, vr14, vr15, vr16, vr17, vr18, vr19, vr20, vr21, vr22, vr23, vr24, vr25, vr26, vr27, vr28, vr29, vr30, vr31, vr32, vr33, vr34, opS, fpS, okP, pack, nAl, allocA, shId, leaves, fillA, fillR, splice, Nat.reduceLT, Nat.reduceEqDiff, Nat.reduceLeDiff, Nat.reduceAdd, Nat.reduceSub, Nat.reduceMul, Int.reduceBEq, Int.reduceBNe, Int.reduceLT, Int.reduceLE, Int.reduceEq, reduceIte, reduceCtorEq, da, int, boolA, ir_one, ir_len, ir_take, t1, t2, t3, RetE_go, resT, resC, resN, retV3, cells_sc]
    rw [hx_nil]
    exact ⟨_, cur_set p1 ho4 _, keep_set ((kk.trans (KeepC.hx (by simpa using lw) _)).trans p2) (Nat.le_refl _) ho4 _⟩
end Go.VI

set_option linter.unusedVariables false
set_option linter.unusedSimpArgs false
set_option maxRecDepth 100000
namespace Go.VI
attribute [local congr] AW_congr OW_congr DW_congr NW_congr VW_congr GW_congr PW_congr KW_congr ite_congr' GV_congr CV_congr
def edgeC (nd : Int → NodeM × Int) (root : Int) (last : Bool) : Ans × List StepM := standM (wayX (edgeK last) nd root)
theorem way_edge {X : List Nat} {nd : Int → NodeM × Int} {sv : AV} {P : Heap → Prop} (hv : SrcV X nd sv P) (root : Int) (last : Bool) : okCs (wayX (edgeK last) nd root).1 ∧ ((wayX (edgeK last) nd root).2 = 0 → (wayX (edgeK last) nd root).1 ≠ []) ∧ (wayX (edgeK last) nd root).1.length ≤ 12 :=
  wayX_spec (edgeK last) hv.ok hv.tiny (fun n a b c => edge_rng _ n a b c) 12 root [] ⟨by simp, by simp⟩ rfl
theorem way_path {X : List Nat} {nd : Int → NodeM × Int} {sv : AV} {P : Heap → Prop} (hv : SrcV X nd sv P) (root : Int) (key : Bytes) : okCs (wayX (pathK key) nd root).1 ∧ ((wayX (pathK key) nd root).2 = 0 → (wayX (pathK key) nd root).1 ≠ []) ∧ (wayX (pathK key) nd root).1.length ≤ 12 :=
  wayX_spec (pathK key) hv.ok hv.tiny (fun n a b c => path_rng _ n a b c) 12 root [] ⟨by simp, by simp⟩ rfl
/-- Next, or Prev. -/
def stepN (nd : Int → NodeM × Int) (root : Int) (fwd : Bool) (ws : List StepM) : Ans × List StepM :=
  if ws = [] then edgeC nd root (!fwd) else moveM nd (if fwd then 1 else -1) ws
def seekC (nd : Int → NodeM × Int) (root : Int) (key : Bytes) : Ans × List StepM :=
  if (wayX (pathK key) nd root).2 ≠ 0 then (((nilI, false), (wayX (pathK key) nd root).2), [])
  else match (wayX (pathK key) nd root).1.getLast? with
    | none => (((nilI, false), 0), [])
    | some s => if (s.n.items.length : Int) ≤ s.k then besideM nd 1 (wayX (pathK key) nd root).1 else (((hereM (wayX (pathK key) nd root).1).1, 0), (hereM (wayX (pathK key) nd root).1).2)
theorem KeepC.mono {cid : Nat} {X X' : List Nat} {H H' : Heap} (h : KeepC cid X H H') (hs : ∀ x ∈ X, x ∈ X') (ho : ∀ x ∈ X', ¬ OwnC H cid x) : KeepC cid X' H H' where
  le := h.le
  old := fun id b hb hn hx => h.old id b hb hn (fun h => hx (hs _ h))
  bx := fun id hi fz c hg => by
    by_cases hx : id ∈ X
    · exact h.bx id hx fz c hg
    · exact ⟨fz, h.old id _ hg (ho id hi) hx⟩
  own := h.own
section
variable {X : List Nat} {nd : Int → NodeM × Int} {sv : AV} {P : Heap → Prop} {H : Heap} {cid : Nat} {root : Int} {lv : AV} {ws : List StepM}
theorem s33 (hv : SrcV X nd sv P) (hX : cid ∉ X ∧ ∀ x ∈ X, x < H.next) (hP : P H) (hc : Cur H cid sv root lv ws) :
    ∃ H', callL ft (.fn (.func 33) [] []) [.ptr cid 0 0] H = some (ansV (edgeC nd root false).1, H') ∧ ∃ lv', Cur H' cid sv root lv' (edgeC nd root false).2 ∧ KeepC cid X H H' := by
  refine call_oE rfl (by simp) ?_
  have ow := get_old hc.1
  have lw := Heap.get_lt hc.1
  obtain ⟨w1, w2, w3⟩ := way_edge hv root false
  unfold c33 r33
  simp only [↓vp, vq0, vq1, vq2, vq3, vr0, vr1, vr2, vr3, vr4, vr5, vr6, vr7, vr8, vr9, vr10, vr11, vr12, vr13, vr14, vr15, vr16, vr17, vr18, vr19, vr20, vr21, vr22, vr23, vr24, vr25, vr26, vr27, vr28, vr29, vr30, vr31, vr32, vr33, vr34, opS, fpS, okP, pack, nAl, allocA, shId, leaves, fillA, fillR, splice, Nat.reduceLT, Nat.reduceEqDiff, Nat.reduceLeDiff, Nat.reduceAdd, Nat.reduceSub, Nat.reduceMul, Int.reduceBEq, Int.reduceBNe, Int.reduceLT, Int.reduceLE, Int.reduceEq, reduceIte, reduceCtorEq, da, int, boolA, ow]
  refine KW19 hv (K := H) hP root false fun K3 P3 hF => ?_
  have k3 := hF.keep hX.1
  have cur3 : Cur K3 cid sv root lv ws := by
    refine ⟨by rw [hF.off _ hX.1]; exact hc.1, ?_⟩
    rcases hc.2 with h | ⟨id, rs, e, h2, h3⟩
    · exact .inl h
    · refine .inr ⟨id, rs, e, ?_, h3⟩
      rw [hF.off _ (fun h => ?_)]
      · exact h2
      · obtain ⟨fz, c, h⟩ := hv.bx H hP id h; rw [h2] at h; cases h
  have n3 := hF.nx
  simp only [↓vp, vq0, vq1, vq2, vq3, vr0, vr1, vr2, vr3, vr4, vr5, vr6, vr7, vr8, vr9, vr10, vr11, vr12, vr13, vr14, vr15, vr16, vr17, vr18, vr19, vr20, vr21, vr22, vr23, vr24, vr25, vr26, vr27, vr28, vr29, vr30, vr31, vr32, vr33, vr34, opS, fpS, okP, pack, nAl, allocA, shId, leaves, fillA, fillR, splice, Nat.reduceLT, Nat.reduceEqDiff, Nat.reduceLeDiff, Nat.reduceAdd, Nat.reduceSub, Nat.reduceMul, Int.reduceBEq, Int.reduceBNe, Int.reduceLT, Int.reduceLE, Int.reduceEq, reduceIte, reduceCtorEq, da, int, boolA, n3]
  have lw3 := Heap.get_lt cur3.1
  refine KW_ex (s58 ⟨hX.1, fun x hx => by have := hX.2 x hx; rw [hx_next, n3]; omega⟩ hv.one (cur3.hx _) _ _ (fun e => ⟨w2 e, by omega, w1⟩)) fun H' hP' => ?_
  obtain ⟨lv', p1, p2⟩ := hP'
  obtain ⟨gq4, ho4⟩ := tailC cur3 lw3 p2 (fun h => by have := hX.2 _ h; omega)
  rw [n3] at gq4 ho4
  obtain ⟨t1, t2, t3⟩ := tail_box gq4
  rw [← hx_nil H']
  unfold ansV
  simp only [↓vp, vq0, vq1, vq2, vq3, vr0, vr1, vr2, vr3, vr4, vr5, vr6, vr7, vr8, vr9, vr10, vr11, vr12, vr13, vr14, vr15, vr16, vr17, vr18, vr19, vr20, vr21, vr22, vr23, vr24, vr25, vr26, vr27, vr28, vr29, vr30, vr31, vr32, vr33, vr34, opS, fpS, okP, pack, nAl, allocA, shId, leaves, fillA, fillR, splice, Nat.reduceLT, Nat.reduceEqDiff, Nat.reduceLeDiff, Nat.reduceAdd, Nat.reduceSub, Nat.reduceMul, Int.reduceBEq, Int.reduceBNe, Int.reduceLT, Int.reduceLE, Int.reduceEq, reduceIte, reduceCtorEq, da, int, boolA, ir_one, ir_len, ir_take, t1, t2, t3, RetE_go, resT, resC, resN, retV3, cells_sc]
  rw [hx_nil]
  exact ⟨rfl, _, cur_set p1 ho4 _, keep_set ((k3.trans (KeepC.hx lw3 _)).trans p2) (Nat.le_refl _) ho4 _⟩
theorem s35 (hv : SrcV X nd sv P) (hX : cid ∉ X ∧ ∀ x ∈ X, x < H.next) (hP : P H) (hc : Cur H cid sv root lv ws) :
    ∃ H', callL ft (.fn (.func 35) [] []) [.ptr cid 0 0] H = some (ansV (edgeC nd root true).1, H') ∧ ∃ lv', Cur H' cid sv root lv' (edgeC nd root true).2 ∧ KeepC cid X H H' := by
  refine call_oE rfl (by simp) ?_
  have ow := get_old hc.1
  have lw := Heap.get_lt hc.1
  obtain ⟨w1, w2, w3⟩ := way_edge hv root true
  unfold c35 r35
  simp only [↓vp, vq0, vq1, vq2, vq3, vr0, vr1, vr2, vr3, vr4, vr5, vr6, vr7, vr8, vr9, vr10, vr11, vr12, vr13, vr14, vr15, vr16, vr17, vr18, vr19, vr20, vr21, vr22, vr23, vr24, vr25, vr26, vr27, vr28, vr29, vr30, vr31, vr32, vr33, vr34, opS, fpS, okP, pack, nAl, allocA, shId, leaves, fillA, fillR, splice, Nat.reduceLT, Nat.reduceEqDiff, Nat.reduceLeDiff, Nat.reduceAdd, Nat.reduceSub, Nat.reduceMul, Int.reduceBEq, Int.reduceBNe, Int.reduceLT, Int.reduceLE, Int.reduceEq, reduceIte, reduceCtorEq, da, int, boolA, ow]
  refine KW19 hv (K := H) hP root true fun K3 P3 hF => ?_
  have k3 := hF.keep hX.1
  have cur3 : Cur K3 cid sv root lv ws := by
    refine ⟨by rw [hF.off _ hX.1]; exact hc.1, ?_⟩
    rcases hc.2 with h | ⟨id, rs, e, h2, h3⟩
    · exact .inl h
    · refine .inr ⟨id, rs, e, ?_, h3⟩
      rw [hF.off _ (fun h => ?_)]
      · exact h2
      · obtain ⟨fz, c, h⟩ := hv.bx H hP id h; rw [h2] at h; cases h
  have n3 := hF.nx
  simp only [↓vp, vq0, vq1, vq2, vq3, vr0, vr1, vr2, vr3, vr4, vr5, vr6, vr7, vr8, vr9, vr10, vr11, vr12, vr13, vr14, vr15, vr16, vr17, vr18, vr19, vr20, vr21, vr22, vr23, vr24, vr25, vr26, vr27, vr28, vr29, vr30, vr31, vr32, vr33, vr34, opS, fpS, okP, pack, nAl, allocA, shId, leaves, fillA, fillR, splice, Nat.reduceLT, Nat.reduceEqDiff, Nat.reduceLeDiff, Nat.reduceAdd, Nat.reduceSub, Nat.reduceMul, Int.reduceBEq, Int.reduceBNe, Int.reduceLT, Int.reduceLE, Int.reduceEq, reduceIte, reduceCtorEq, da, int, boolA, n3]
  have lw3 := Heap.get_lt cur3.1
  refine KW_ex (s58 ⟨hX.1, fun x hx => by have := hX.2 x hx; rw [hx_next, n3]; omega⟩ hv.one (cur3.hx _) _ _ (fun e => ⟨w2 e, by omega, w1⟩)) fun H' hP' => ?_
  obtain ⟨lv', p1, p2⟩ := hP'
  obtain ⟨gq4, ho4⟩ := tailC cur3 lw3 p2 (fun h => by have := hX.2 _ h; omega)
  rw [n3] at gq4 ho4
  obtain ⟨t1, t2, t3⟩ := tail_box gq4
  rw [← hx_nil H']
  unfold ansV
  simp only [↓vp, vq0, vq1, vq2, vq3, vr0, vr1, vr2, vr3, vr4, vr5, vr6, vr7, vr8, vr9, vr10, vr11, vr12, vr13, vr14, vr15, vr16, vr17, vr18, vr19, vr20, vr21, vr22, vr23, vr24, vr25, vr26, vr27, vr28, vr29, vr30, vr31, vr32, vr33, vr34, opS, fpS, okP, pack, nAl, allocA, shId, leaves, fillA, fillR, splice, Nat.reduceLT, Nat.reduceEqDiff, Nat.reduceLeDiff, Nat.reduceAdd, Nat.reduceSub, Nat.reduceMul, Int.reduceBEq, Int.reduceBNe, Int.reduceLT, Int.reduceLE, Int.reduceEq, reduceIte, reduceCtorEq, da, int, boolA, ir_one, ir_len, ir_take, t1, t2, t3, RetE_go, resT, resC, resN, retV3, cells_sc]
  rw [hx_nil]
  exact ⟨rfl, _, cur_set p1 ho4 _, keep_set ((k3.trans (KeepC.hx lw3 _)).trans p2) (Nat.le_refl _) ho4 _⟩
theorem s34 (hv : SrcV X nd sv P) (hX : cid ∉ X ∧ ∀ x ∈ X, x < H.next) (hP : P H) (hc : Cur H cid sv root lv ws) (hws : okCs ws) (hwl9 : ws.length ≤ 999000000) (hkl : ∀ s, ws.getLast? = some s → 0 ≤ s.k ∧ s.k ≤ 1000) :
    ∃ H', callL ft (.fn (.func 34) [] []) [.ptr cid 0 0] H = some (ansV (stepN nd root true ws).1, H') ∧ ∃ lv', Cur H' cid sv root lv' (stepN nd root true ws).2 ∧ KeepC cid X H H' := by
  refine call_oE rfl (by simp) ?_
  have ow := get_old hc.1
  have lw := Heap.get_lt hc.1
  have ll := fun L => hc.2.len (hx H L)
  have hX' : cid ∉ X ∧ ∀ x ∈ X, x < (hx H [.box false itemN]).next := ⟨hX.1, fun x hx => by have := hX.2 x hx; rw [hx_next]; omega⟩
  have hP' : P (hx H [.box false itemN]) := hv.st _ _ hP fun id _ fz c h => ⟨fz, get_old h _⟩
  unfold c34 r34
  by_cases h0 : ws = []
  · have hl : (ws.length : Int) = 0 := by rw [h0]; rfl
    have hM : stepN nd root true ws = edgeC nd root false := by unfold stepN; rw [if_pos h0]; rfl
    rw [hM]
    simp only [↓vp, vq0, vq1, vq2, vq3, vr0, vr1, vr2, vr3, vr4, vr5, vr6, vr7, vr8, vr9, vr10, vr11, vr12, vr13, vr14, vr15, vr16, vr17, vr18, vr19, vr20, vr21, vr22, vr23, vr24, vr25, vr26, vr27, vr28, vr29, vr30, vr31, vr32, vr33, vr34, opS, fpS, okP, pack, nAl, allocA, shId, leaves, fillA, fillR, splice, Nat.reduceLT, Nat.reduceEqDiff, Nat.reduceLeDiff, Nat.reduceAdd, Nat.reduceSub, Nat.reduceMul, Int.reduceBEq, Int.reduceBNe, Int.reduceLT, Int.reduceLE, Int.reduceEq, reduceIte, reduceCtorEq, da, int, boolA, ow, ll, hl]
    refine KW_ex (s33 hv hX' hP' (hc.hx _)) fun H' hP' => ?_
    obtain ⟨lv', p1, p2⟩ := hP'
    obtain ⟨gq4, ho4⟩ := tailC hc lw p2 (fun h => by have := hX.2 _ h; omega)
    obtain ⟨t1, t2, t3⟩ := tail_box gq4
    try simp only [itemN] at t1
    rw [← hx_nil H']
    unfold ansV
    simp only [↓vp, vq0, vq1, vq2, vq3, vr0, vr1, vr2, vr3, vr4, vr5, vr6, vr7, vr8, vr9, vr10, vr11, vr12, vr13, vr14, vr15, vr16, vr17, vr18, vr19, vr20, vr21, vr22, vr23, vr24, vr25, vr26, vr27, vr28, vr29, vr30, vr31, vr32, vr33, vr34, opS, fpS, okP, pack, nAl, allocA, shId, leaves, fillA, fillR, splice, Nat.reduceLT, Nat.reduceEqDiff, Nat.reduceLeDiff, Nat.reduceAdd, Nat.reduceSub, Nat.reduceMul, Int.reduceBEq, Int.reduceBNe, Int.reduceLT, Int.reduceLE, Int.reduceEq, reduceIte, reduceCtorEq, da, int, boolA, ir_one, ir_len, ir_take, t1, t2, t3, RetE_go, resT, resC, resN, retV3, cells_sc]
    rw [hx_nil]
    exact ⟨_, cur_set p1 ho4 _, keep_set ((KeepC.hx lw _).trans p2) (Nat.le_refl _) ho4 _⟩
  · have hl : ((ws.length : Int) == 0) = false := by
      have := List.length_pos_iff.2 h0
      simp; omega
    have hM : stepN nd root true ws = moveM nd (1) ws := by unfold stepN; rw [if_neg h0]; rfl
    rw [hM]
    simp only [↓vp, vq0, vq1, vq2, vq3, vr0, vr1, vr2, vr3, vr4, vr5, vr6, vr7, vr8, vr9, vr10, vr11, vr12, vr13, vr14, vr15, vr16, vr17, vr18, vr19, vr20, vr21, vr22, vr23, vr24, vr25, vr26, vr27, vr28, vr29, vr30, vr31, vr32, vr33, vr34, opS, fpS, okP, pack, nAl, allocA, shId, leaves, fillA, fillR, splice, Nat.reduceLT, Nat.reduceEqDiff, Nat.reduceLeDiff, Nat.reduceAdd, Nat.reduceSub, Nat.reduceMul, Int.reduceBEq, Int.reduceBNe, Int.reduceLT, Int.reduceLE, Int.reduceEq, reduceIte, reduceCtorEq, da, int, boolA, ow, ll, hl]
    refine KW_ex (s59 hv hX' hP' (hc.hx _) hws hwl9 h0 hkl (1) (by decide)) fun H' hP' => ?_
    obtain ⟨lv', p1, p2⟩ := hP'
    obtain ⟨gq4, ho4⟩ := tailC hc lw p2 (fun h => by have := hX.2 _ h; omega)
    obtain ⟨t1, t2, t3⟩ := tail_box gq4
    try simp only [itemN] at t1
    rw [← hx_nil H']
    unfold ansV
    simp only [↓vp, vq0, vq1, vq2, vq3, vr0, vr1, vr2, vr3, vr4, vr5, vr6, vr7, vr8, vr9, vr10, vr11, vr12, vr13, vr14, vr15, vr16, vr17, vr18, vr19, vr20, vr21, vr22, vr23, vr24, vr25, vr26, vr27, vr28, vr29, vr30, vr31, vr32, vr33, vr34, opS, fpS, okP, pack, nAl, allocA, shId, leaves, fillA, fillR, splice, Nat.reduceLT, Nat.reduceEqDiff, Nat.reduceLeDiff, Nat.reduceAdd, Nat.reduceSub, Nat.reduceMul, Int.reduceBEq, Int.reduceBNe, Int.reduceLT, Int.reduceLE, Int.reduceEq, reduceIte, reduceCtorEq, da, int, boolA, ir_one, ir_len, ir_take, t1, t2, t3, RetE_go, resT, resC, resN, retV3, cells_sc]
    rw [hx_nil]
    exact ⟨_, cur_set p1 ho4 _, keep_set ((KeepC.hx lw _).trans p2) (Nat.le_refl _) ho4 _⟩
theorem s36 (hv : SrcV X nd sv P) (hX : cid ∉ X ∧ ∀ x ∈ X, x < H.next) (hP : P H) (hc : Cur H cid sv root lv ws) (hws : okCs ws) (hwl9 : ws.length ≤ 999000000) (hkl : ∀ s, ws.getLast? = some s → 0 ≤ s.k ∧ s.k ≤ 1000) :
    ∃ H', callL ft (.fn (.func 36) [] []) [.ptr cid 0 0] H = some (ansV (stepN nd root false ws).1, H') ∧ ∃ lv', Cur H' cid sv root lv' (stepN nd root false ws).2 ∧ KeepC cid X H H' := by
  refine call_oE rfl (by simp) ?_
  have ow := get_old hc.1
  have lw := Heap.get_lt hc.1
  have ll := fun L => hc.2.len (hx H L)
  have hX' : cid ∉ X ∧ ∀ x ∈ X, x < (hx H [.box false itemN]).next := ⟨hX.1, fun x hx => by have := hX.2 x hx; rw [hx_next]; omega⟩
  have hP' : P (hx H [.box false itemN]) := hv.st _ _ hP fun id _ fz c h => ⟨fz, get_old h _⟩
  unfold c36 r36
  by_cases h0 : ws = []
  · have hl : (ws.length : Int) = 0 := by rw [h0]; rfl
    have hM : stepN nd root false ws = edgeC nd root true := by unfold stepN; rw [if_pos h0]; rfl
    rw [hM]
    simp only [↓vp, vq0, vq1, vq2, vq3, vr0, vr1, vr2, vr3, vr4, vr5, vr6, vr7, vr8, vr9, vr10, vr11, vr12, vr13, vr14, vr15, vr16, vr17, vr18, vr19, vr20, vr21, vr22, vr23, vr24, vr25, vr26, vr27, vr28, vr29, vr30, vr31, vr32, vr33, vr34, opS, fpS, okP, pack, nAl, allocA, shId, leaves, fillA, fillR, splice, Nat.reduceLT, Nat.reduceEqDiff, Nat.reduceLeDiff, Nat.reduceAdd, Nat.reduceSub, Nat.reduceMul, Int.reduceBEq, Int.reduceBNe, Int.reduceLT, Int.reduceLE, Int.reduceEq, reduceIte, reduceCtorEq, da, int, boolA, ow, ll, hl]
    refine KW_ex (s35 hv hX' hP' (hc.hx _)) fun H' hP' => ?_
    obtain ⟨lv', p1, p2⟩ := hP'
    obtain ⟨gq4, ho4⟩ := tailC hc lw p2 (fun h => by have := hX.2 _ h; omega)
    obtain ⟨t1, t2, t3⟩ := tail_box gq4
    try simp only [itemN] at t1
    rw [← hx_nil H']
    unfold ansV
    simp only [↓vp, vq0, vq1, vq2, vq3, vr0, vr1, vr2, vr3, vr4, vr5, vr6, vr7, vr8, vr9, vr10, vr11, vr12, vr13, vr14, vr15, vr16, vr17, vr18, vr19, vr20, vr21, vr22, vr23, vr24, vr25, vr26, vr27, vr28, vr29, vr30, vr31, vr32, vr33, vr34, opS, fpS, okP, pack, nAl, allocA, shId, leaves, fillA, fillR, splice, Nat.reduceLT, Nat.reduceEqDiff, Nat.reduceLeDiff, Nat.reduceAdd, Nat.reduceSub, Nat.reduceMul, Int.reduceBEq, Int.reduceBNe, Int.reduceLT, Int.reduceLE, Int.reduceEq, reduceIte, reduceCtorEq, da, int, boolA, ir_one, ir_len, ir_take, t1, t2, t3, RetE_go, resT, resC, resN, retV3, cells_sc]
    rw [hx_nil]
    exact ⟨_, cur_set p1 ho4 _, keep_set ((KeepC.hx lw _).trans p2) (Nat.le_refl _) ho4 _⟩
  · have hl : ((ws.length : Int) == 0) = false := by
      have := List.length_pos_iff.2 h0
      simp; omega
    have hM : stepN nd root false ws = moveM nd (-1) ws := by unfold stepN; rw [if_neg h0]; rfl
    rw [hM]
    simp only [↓vp, vq0, vq1, vq2, vq3, vr0, vr1, vr2, vr3, vr4, vr5, vr6, vr7, vr8, vr9, vr10, vr11, vr12, vr13, vr14, vr15, vr16, vr17, vr18, vr19, vr20, vr21, vr22, vr23, vr24, vr25, vr26, vr27, vr28, vr29, vr30, vr31, vr32, vr33, vr34, opS, fpS, okP, pack, nAl, allocA, shId, leaves, fillA, fillR, splice, Nat.reduceLT, Nat.reduceEqDiff, Nat.reduceLeDiff, Nat.reduceAdd, Nat.reduceSub, Nat.reduceMul, Int.reduceBEq, Int.reduceBNe, Int.reduceLT, Int.reduceLE, Int.reduceEq, reduceIte, reduceCtorEq, da, int, boolA, ow, ll, hl]
    refine KW_ex (s59 hv hX' hP' (hc.hx _) hws hwl9 h0 hkl (-1) (by decide)) fun H' hP' => ?_
    obtain ⟨lv', p1, p2⟩ := hP'
    obtain ⟨gq4, ho4⟩ := tailC hc lw p2 (fun h => by have := hX.2 _ h; omega)
    obtain ⟨t1, t2, t3⟩ := tail_box gq4
    try simp only [itemN] at t1
    rw [← hx_nil H']
    unfold ansV
    simp only [↓vp, vq0, vq1, vq2, vq3, vr0, vr1, vr2, vr3, vr4, vr5, vr6, vr7, vr8, vr9, vr10, vr11, vr12, vr13, vr14, vr15, vr16, vr17, vr18, vr19, vr20, vr21, vr22, vr23, vr24, vr25, vr26, vr27, vr28, vr29, vr30, vr31, vr32, vr33, vr34, opS, fpS, okP, pack, nAl, allocA, shId, leaves, fillA, fillR, splice, Nat.reduceLT, Nat.reduceEqDiff, Nat.reduceLeDiff, Nat.reduceAdd, Nat.reduceSub, Nat.reduceMul, Int.reduceBEq, Int.reduceBNe, Int.reduceLT, Int.reduceLE, Int.reduceEq, reduceIte, reduceCtorEq, da, int, boolA, ir_one, ir_len, ir_take, t1, t2, t3, RetE_go, resT, resC, resN, retV3, cells_sc]
    rw [hx_nil]
    exact ⟨_, cur_set p1 ho4 _, keep_set ((KeepC.hx lw _).trans p2) (Nat.le_refl _) ho4 _⟩
theorem s37g (hv : SrcV X nd sv P) {X' : List Nat} (hX : cid ∉ X' ∧ ∀ x ∈ X', x < H.next) (hsub : ∀ x ∈ X, x ∈ X') (hrow : ∀ j, OwnC H cid j → j ∉ X') (hc : Cur H cid sv root lv ws) {key : Bytes} {kv : AV}
    (h16 : ∀ Q : AV → Heap → Prop, (∀ K', P K' → FrX X' H K' → Q (.tup [encS (wayX (pathK key) nd root).1, int (wayX (pathK key) nd root).2]) (hx K' [.box false itemN])) → KW ft (.fn (.func 16) [] []) [sv, .sc (.int .i64 root), kv] (hx H [.box false itemN]) Q) :
    ∃ H', callL ft (.fn (.func 37) [] []) [.ptr cid 0 0, kv] H = some (ansV (seekC nd root key).1, H') ∧ ∃ lv', Cur H' cid sv root lv' (seekC nd root key).2 ∧ KeepC cid X' H H' := by
  refine call_oE rfl (by simp) ?_
  have ow := get_old hc.1
  have lw := Heap.get_lt hc.1
  obtain ⟨w1, w2, w3⟩ := way_path hv root key
  unfold c37 r37 seekC
  simp only [↓vp, vq0, vq1, vq2, vq3, vr0, vr1, vr2, vr3, vr4, vr5, vr6, vr7, vr8, vr9, vr10, vr11, vr12, vr13, vr14, vr15, vr16, vr17, vr18, vr19, vr20, vr21, vr22, vr23, vr24, vr25, vr26, vr27, vr28, vr29, vr30, vr31, vr32, vr33, vr34, opS, fpS, okP, pack, nAl, allocA, shId, leaves, fillA, fillR, splice, Nat.reduceLT, Nat.reduceEqDiff, Nat.reduceLeDiff, Nat.reduceAdd, Nat.reduceSub, Nat.reduceMul, Int.reduceBEq, Int.reduceBNe, Int.reduceLT, Int.reduceLE, Int.reduceEq, reduceIte, reduceCtorEq, da, int, boolA, ow]
  refine h16 _ fun K3 P3 hF => ?_
  have k3 := hF.keep hX.1
  have cur3 : Cur K3 cid sv root lv ws := by
    refine ⟨by rw [hF.off _ hX.1]; exact hc.1, ?_⟩
    rcases hc.2 with h | ⟨id, rs, e, h2, h3⟩
    · exact .inl h
    · refine .inr ⟨id, rs, e, ?_, h3⟩
      rw [hF.off _ (hrow id (.inr ⟨sv, int root, 0, ws.length, by rw [hc.1, e]⟩))]
      exact h2
  have n3 := hF.nx
  have lw3 := Heap.get_lt cur3.1
  generalize wayX (pathK key) nd root = p at w1 w2 w3
  obtain ⟨wl, er⟩ := p
  simp only at w1 w2 w3 ⊢
  cases e1 : (er != 0) with
  | true =>
    have e1' : er ≠ 0 := by simpa using e1
    rw [if_pos e1']
    simp only [↓vp, vq0, vq1, vq2, vq3, vr0, vr1, vr2, vr3, vr4, vr5, vr6, vr7, vr8, vr9, vr10, vr11, vr12, vr13, vr14, vr15, vr16, vr17, vr18, vr19, vr20, vr21, vr22, vr23, vr24, vr25, vr26, vr27, vr28, vr29, vr30, vr31, vr32, vr33, vr34, opS, fpS, okP, pack, nAl, allocA, shId, leaves, fillA, fillR, splice, Nat.reduceLT, Nat.reduceEqDiff, Nat.reduceLeDiff, Nat.reduceAdd, Nat.reduceSub, Nat.reduceMul, Int.reduceBEq, Int.reduceBNe, Int.reduceLT, Int.reduceLE, Int.reduceEq, reduceIte, reduceCtorEq, da, int, boolA, n3, e1]
    refine KW_ex (s60 (X := X') hX.1 hv.one (cur3.hx _) er) fun H' hP' => ?_
    obtain ⟨p1, p2⟩ := hP'
    obtain ⟨gq4, ho4⟩ := tailC cur3 lw3 p2 (fun h => by have := hX.2 _ h; omega)
    rw [n3] at gq4 ho4
    obtain ⟨t1, t2, t3⟩ := tail_box gq4
    try simp only [itemN] at t1
    rw [← hx_nil H']
    unfold ansV
    simp only [↓vp, vq0, vq1, vq2, vq3, vr0, vr1, vr2, vr3, vr4, vr5, vr6, vr7, vr8, vr9, vr10, vr11, vr12, vr13, vr14, vr15, vr16, vr17, vr18, vr19, vr20, vr21, vr22, vr23, vr24, vr25, vr26, vr27, vr28, vr29, vr30, vr31, vr32, vr33, vr34, opS, fpS, okP, pack, nAl, allocA, shId, leaves, fillA, fillR, splice, Nat.reduceLT, Nat.reduceEqDiff, Nat.reduceLeDiff, Nat.reduceAdd, Nat.reduceSub, Nat.reduceMul, Int.reduceBEq, Int.reduceBNe, Int.reduceLT, Int.reduceLE, Int.reduceEq, reduceIte, reduceCtorEq, da, int, boolA, ir_one, ir_len, ir_take, t1, t2, t3, RetE_go, resT, resC, resN, retV3, cells_sc]
    rw [hx_nil]
    exact ⟨_, cur_set p1 ho4 _, keep_set ((k3.trans (KeepC.hx lw3 _)).trans p2) (Nat.le_refl _) ho4 _⟩
  | false =>
    have e1' : er = 0 := by simpa using e1
    subst e1'
    have w2' := w2 rfl
    rw [if_neg (by simp)]
    obtain ⟨m, hm⟩ : ∃ m, wl.length = m + 1 := ⟨wl.length - 1, by have := List.length_pos_iff.2 w2'; omega⟩
    have hlast := getLast_at hm
    rw [hlast]
    have gm : m < wl.length := by omega
    have hs := w1.1 _ (List.getElem_mem gm)
    obtain ⟨o1, o2, o3, o4, o5⟩ := hs
    have w0 := wrap_pred (show m < 9223372036854775807 by omega)
    have oc3 := get_old cur3.1
    have pw3 := fun L b => hx_set_old K3 L b cid lw3
    have aS := fun H => atS (H := H) gm
    have bS := fun H off n => cS (H := H) (off := off) (n := n) gm
    have lS : (encS wl) = .lst (wl.map stepC) := rfl
    have b1 : KeepC cid X' K3 (hx (K3.set cid (.box false [sv, .sc (.int .i64 root), .sl (H.next + 2) 0 wl.length])) [.box false itemN, .dead, .row false 5 (wl.map stepC), .box false (stepC (wl[m]'gm))]) :=
      (KeepC.box lw3 hX.1 _ _ _ (fun id off len h => .inr (by cases h; omega))).trans (KeepC.hx (by simpa using lw3) _)
    have b2 : Cur (hx (K3.set cid (.box false [sv, .sc (.int .i64 root), .sl (H.next + 2) 0 wl.length])) [.box false itemN, .dead, .row false 5 (wl.map stepC), .box false (stepC (wl[m]'gm))]) cid sv root (.sl (H.next + 2) 0 wl.length) wl := by
      refine ⟨?_, .inr ⟨H.next + 2, wl.map stepC, rfl, ?_, by rw [List.take_of_length_le (by simp)]⟩⟩
      · rw [hx_get_old _ _ _ (by simpa using lw3), Heap.get_set_self _ lw3]; rfl
      · have := hx_get (K3.set cid (.box false [sv, .sc (.int .i64 root), .sl (H.next + 2) 0 wl.length])) [.box false itemN, .dead, .row false 5 (wl.map stepC), .box false (stepC (wl[m]'gm))] 2
        rw [Heap.next_set, n3] at this
        rw [this]; rfl
    have b3 : ¬ OwnC (hx (K3.set cid (.box false [sv, .sc (.int .i64 root), .sl (H.next + 2) 0 wl.length])) [.box false itemN, .dead, .row false 5 (wl.map stepC), .box false (stepC (wl[m]'gm))]) cid H.next := fun h => by
      rcases h with h | ⟨s, r, o, l, h⟩
      · omega
      · rw [b2.1] at h
        simp only [Option.some.injEq, Blk.box.injEq, List.cons.injEq, and_true, true_and, AV.sl.injEq] at h
        omega
    have b4 : (hx (K3.set cid (.box false [sv, .sc (.int .i64 root), .sl (H.next + 2) 0 wl.length])) [.box false itemN, .dead, .row false 5 (wl.map stepC), .box false (stepC (wl[m]'gm))]).get H.next = some (.box false itemN) := by
      have := hx_get0 (K3.set cid (.box false [sv, .sc (.int .i64 root), .sl (H.next + 2) 0 wl.length])) [.box false itemN, .dead, .row false 5 (wl.map stepC), .box false (stepC (wl[m]'gm))]
      rw [Heap.next_set, n3] at this
      rw [this]; rfl
    have b5 : (hx (K3.set cid (.box false [sv, .sc (.int .i64 root), .sl (H.next + 2) 0 wl.length])) [.box false itemN, .dead, .row false 5 (wl.map stepC), .box false (stepC (wl[m]'gm))]).next = H.next + 4 := by
      rw [hx_next, Heap.next_set, n3]; rfl
    have P4 : P (hx (K3.set cid (.box false [sv, .sc (.int .i64 root), .sl (H.next + 2) 0 wl.length])) [.box false itemN, .dead, .row false 5 (wl.map stepC), .box false (stepC (wl[m]'gm))]) := hv.st _ _ P3 (fun id hi => b1.bx id (hsub id hi))
    by_cases c1 : ((wl[m]'gm).n.items.length : Int) ≤ (wl[m]'gm).k
    · simp only [c1, if_true]
      have hcall := s62 hv (H := hx (K3.set cid (.box false [sv, .sc (.int .i64 root), .sl (H.next + 2) 0 wl.length])) [.box false itemN, .dead, .row false 5 (wl.map stepC), .box false (stepC (wl[m]'gm))]) ⟨fun h => hX.1 (hsub _ h), fun x hx => by have := hX.2 x (hsub x hx); rw [b5]; omega⟩ P4 b2 w1 (by omega) w2' 1 (.inl rfl)
      generalize hG : hx (K3.set cid (.box false [sv, .sc (.int .i64 root), .sl (H.next + 2) 0 wl.length])) [.box false itemN, .dead, .row false 5 (wl.map stepC), .box false (stepC (wl[m]'gm))] = G at *
      rw [hm] at hG
      simp only [↓vp, vq0, vq1, vq2, vq3, vr0, vr1, vr2, vr3, vr4, vr5, vr6, vr7, vr8, vr9, vr10, vr11, vr12, vr13, vr14, vr15, vr16, vr17, vr18, vr19, vr20, vr21, vr22, vr23, vr24, vr25, vr26, vr27, vr28, vr29, vr30, vr31, vr32, vr33, vr34, opS, fpS, okP, pack, nAl, allocA, shId, leaves, fillA, fillR, splice, Nat.reduceLT, Nat.reduceEqDiff, Nat.reduceLeDiff, Nat.reduceAdd, Nat.reduceSub, Nat.reduceMul, Int.reduceBEq, Int.reduceBNe, Int.reduceLT, Int.reduceLE, Int.reduceEq, reduceIte, reduceCtorEq, da, int, boolA, n3, oc3, pw3, k61 w2' (show wl.length ≤ 1000 by omega), cells_sl, hm, w0, aS, bS, c1]
      try unfold int at hG
      rw [hG]
      refine KW_ex hcall fun H' hP' => ?_
      obtain ⟨lv', p1, p2⟩ := hP'
      replace p2 := p2.mono hsub (fun x hx hxo => by
        rcases b1.own x hxo with h | h
        · rcases k3.own x h with h | h
          · exact hrow x h hx
          · have := hX.2 x hx; omega
        · have := hX.2 x hx; omega)
      have k4 := b1.trans p2
      have q1 := p2.old _ _ b4 b3 (fun h => by have := hX.2 _ h; omega)
      have q2 : ¬ OwnC H' cid H.next := fun h => by
        rcases p2.own _ h with h | h
        · exact b3 h
        · rw [b5] at h; omega
      obtain ⟨t1, t2, t3⟩ := tail_box q1
      try simp only [itemN] at t1
      rw [← hx_nil H']
      unfold ansV
      simp only [↓vp, vq0, vq1, vq2, vq3, vr0, vr1, vr2, vr3, vr4, vr5, vr6, vr7, vr8, vr9, vr10, vr11, vr12, vr13, vr14, vr15, vr16, vr17, vr18, vr19, vr20, vr21, vr22, vr23, vr24, vr25, vr26, vr27, vr28, vr29, vr30, vr31, vr32, vr33, vr34, opS, fpS, okP, pack, nAl, allocA, shId, leaves, fillA, fillR, splice, Nat.reduceLT, Nat.reduceEqDiff, Nat.reduceLeDiff, Nat.reduceAdd, Nat.reduceSub, Nat.reduceMul, Int.reduceBEq, Int.reduceBNe, Int.reduceLT, Int.reduceLE, Int.reduceEq, reduceIte, reduceCtorEq, da, int, boolA, ir_one, ir_len, ir_take, t1, t2, t3, RetE_go, resT, resC, resN, retV3, cells_sc]
      rw [hx_nil]
      exact ⟨_, cur_set p1 q2 _, keep_set (k3.trans k4) (Nat.le_refl _) q2 _⟩
    · simp only [c1, if_false]
      have hcall : ∃ H', callL ft (.fn (.func 63) [] []) [.ptr cid 0 0] (hx (K3.set cid (.box false [sv, .sc (.int .i64 root), .sl (H.next + 2) 0 wl.length])) [.box false itemN, .dead, .row false 5 (wl.map stepC), .box false (stepC (wl[m]'gm))]) = some (ansV ((hereM wl).1, 0), H') ∧ ∃ lv', Cur H' cid sv root lv' (hereM wl).2 ∧ KeepC cid X' (hx (K3.set cid (.box false [sv, .sc (.int .i64 root), .sl (H.next + 2) 0 wl.length])) [.box false itemN, .dead, .row false 5 (wl.map stepC), .box false (stepC (wl[m]'gm))]) H' := by
        obtain ⟨H', lv', a, b, c⟩ := s63 (X := X') hX.1 hv.one b2 w1
        exact ⟨H', a, lv', b, c⟩
      generalize hG : hx (K3.set cid (.box false [sv, .sc (.int .i64 root), .sl (H.next + 2) 0 wl.length])) [.box false itemN, .dead, .row false 5 (wl.map stepC), .box false (stepC (wl[m]'gm))] = G at *
      rw [hm] at hG
      simp only [↓vp, vq0, vq1, vq2, vq3, vr0, vr1, vr2, vr3, vr4, vr5, vr6, vr7, vr8, vr9, vr10, vr11, vr12, vr13, vr14, vr15, vr16, vr17, vr18, vr19, vr20, vr21, vr22, vr23, vr24, vr25, vr26, vr27, vr28, vr29, vr30, vr31, vr32, vr33, vr34, opS, fpS, okP, pack, nAl, allocA, shId, leaves, fillA, fillR, splice, Nat.reduceLT, Nat.reduceEqDiff, Nat.reduceLeDiff, Nat.reduceAdd, Nat.reduceSub, Nat.reduceMul, Int.reduceBEq, Int.reduceBNe, Int.reduceLT, Int.reduceLE, Int.reduceEq, reduceIte, reduceCtorEq, da, int, boolA, n3, oc3, pw3, k61 w2' (show wl.length ≤ 1000 by omega), cells_sl, hm, w0, aS, bS, c1]
      try unfold int at hG
      rw [hG]
      refine KW_ex hcall fun H' hP' => ?_
      obtain ⟨lv', p1, p2⟩ := hP'
      have k4 := b1.trans p2
      have q1 := p2.old _ _ b4 b3 (fun h => by have := hX.2 _ h; omega)
      have q2 : ¬ OwnC H' cid H.next := fun h => by
        rcases p2.own _ h with h | h
        · exact b3 h
        · rw [b5] at h; omega
      obtain ⟨t1, t2, t3⟩ := tail_box q1
      try simp only [itemN] at t1
      rw [← hx_nil H']
      unfold ansV
      simp only [↓vp, vq0, vq1, vq2, vq3, vr0, vr1, vr2, vr3, vr4, vr5, vr6, vr7, vr8, vr9, vr10, vr11, vr12, vr13, vr14, vr15, vr16, vr17, vr18, vr19, vr20, vr21, vr22, vr23, vr24, vr25, vr26, vr27, vr28, vr29, vr30, vr31, vr32, vr33, vr34, opS, fpS, okP, pack, nAl, allocA, shId, leaves, fillA, fillR, splice, Nat.reduceLT, Nat.reduceEqDiff, Nat.reduceLeDiff, Nat.reduceAdd, Nat.reduceSub, Nat.reduceMul, Int.reduceBEq, Int.reduceBNe, Int.reduceLT, Int.reduceLE, Int.reduceEq, reduceIte, reduceCtorEq, da, int, boolA, ir_one, ir_len, ir_take, t1, t2, t3, RetE_go, resT, resC, resN, retV3, cells_sc]
      rw [hx_nil]
      exact ⟨_, cur_set p1 q2 _, keep_set (k3.trans k4) (Nat.le_refl _) q2 _⟩
theorem s37 (hv : SrcV X nd sv P) (hX : cid ∉ X ∧ ∀ x ∈ X, x < H.next) (hP : P H) (hc : Cur H cid sv root lv ws) {key : Bytes} {kv : AV} (hk : okB key) (hn : NB kv key) :
    ∃ H', callL ft (.fn (.func 37) [] []) [.ptr cid 0 0, kv] H = some (ansV (seekC nd root key).1, H') ∧ ∃ lv', Cur H' cid sv root lv' (seekC nd root key).2 ∧ KeepC cid X H H' :=
  s37g hv hX (fun _ h => h) (fun j hj h => by
    rcases hj with rfl | ⟨s, r, o, l, hj⟩
    · exact hX.1 h
    · rw [hc.1] at hj
      simp only [Option.some.injEq, Blk.box.injEq, List.cons.injEq, and_true, true_and] at hj
      rcases hc.2 with ⟨e, _⟩ | ⟨id', rs, e, h2, _⟩
      · rw [e] at hj; cases hj.2.2
      · rw [e] at hj
        cases hj.2.2
        obtain ⟨fz, c, h⟩ := hv.bx H hP _ h
        rw [h2] at h; cases h) hc (fun Q hq => KW16 hv hP root hk hn hq)
end
end Go.VI

set_option linter.unusedVariables false
set_option linter.unusedSimpArgs false
set_option maxRecDepth 100000
namespace Go.VI
attribute [local congr] AW_congr OW_congr DW_congr NW_congr VW_congr GW_congr PW_congr KW_congr ite_congr' GV_congr CV_congr
/-- A call: its kind, its key. -/
structure OpM where
  kind : Int
  key : Bytes
def opC2 (k : Int) (kv : AV) : List AV := [int k, kv]
def doM (nd : Int → NodeM × Int) (root : Int) (o : OpM) (ws : List StepM) : Ans × List StepM :=
  if o.kind = 0 then seekC nd root o.key
  else if o.kind = 1 then edgeC nd root false
  else if o.kind = 2 then edgeC nd root true
  else if o.kind = 3 then stepN nd root true ws
  else stepN nd root false ws
section
variable {X : List Nat} {nd : Int → NodeM × Int} {sv : AV} {P : Heap → Prop} {H : Heap} {cid : Nat} {root : Int} {lv : AV} {ws : List StepM}
theorem s30 (hv : SrcV X nd sv P) (G : Heap) (r : Int) : callL ft (.fn (.func 30) [] []) [sv, int r] G = some (.ptr G.next 0 0, hx G [.box false [sv, int r, .sc (.slice none 0 0)]]) := by
  have hn := hv.nn
  have hc := hv.cs
  have h1 := hv.one
  refine call_o rfl (by simp) ?_
  unfold c30 r30
  simp only [↓vp, vq0, vq1, vq2, vq3, vr0, vr1, vr2, vr3, vr4, vr5, vr6, vr7, vr8, vr9, vr10, vr11, vr12, vr13, vr14, vr15, vr16, vr17, vr18, vr19, vr20, vr21, vr22, vr23, vr24, vr25, vr26, vr27, vr28, vr29, vr30, vr31, vr32, vr33, vr34, opS, fpS, okP, pack, nAl, allocA, shId, leaves, fillA, fillR, splice, Nat.reduceLT, Nat.reduceEqDiff, Nat.reduceLeDiff, Nat.reduceAdd, Nat.reduceSub, Nat.reduceMul, Int.reduceBEq, Int.reduceBNe, Int.reduceLT, Int.reduceLE, Int.reduceEq, reduceIte, reduceCtorEq, da, int, boolA, hn, hc, h1, RetO_go, resT, resC, resN, retV1]
theorem s30n (G : Heap) (r : Int) : callL ft (.fn (.func 30) [] []) [.sc .nilFunc, int r] G = some (.sc (.pointer none), G) := by
  refine call_o rfl (by simp) ?_
  have hn : isnilA 3 (.sc .nilFunc) = some true := rfl
  unfold c30 r30
  simp only [↓vp, vq0, vq1, vq2, vq3, vr0, vr1, vr2, vr3, vr4, vr5, vr6, vr7, vr8, vr9, vr10, vr11, vr12, vr13, vr14, vr15, vr16, vr17, vr18, vr19, vr20, vr21, vr22, vr23, vr24, vr25, vr26, vr27, vr28, vr29, vr30, vr31, vr32, vr33, vr34, opS, fpS, okP, pack, nAl, allocA, shId, leaves, fillA, fillR, splice, Nat.reduceLT, Nat.reduceEqDiff, Nat.reduceLeDiff, Nat.reduceAdd, Nat.reduceSub, Nat.reduceMul, Int.reduceBEq, Int.reduceBNe, Int.reduceLT, Int.reduceLE, Int.reduceEq, reduceIte, reduceCtorEq, da, int, boolA, hn, RetO_go, resT, resC, resN, retV1]
  rw [hx_nil]
theorem s32 (hv : SrcV X nd sv P) (hX : cid ∉ X ∧ ∀ x ∈ X, x < H.next) (hP : P H) (hc : Cur H cid sv root lv ws) (hws : okCs ws) (hwl9 : ws.length ≤ 999000000) (hkl : ∀ s, ws.getLast? = some s → 0 ≤ s.k ∧ s.k ≤ 1000)
    (o : OpM) (hk : okB o.key) (kv : AV) (hn : NB kv o.key) :
    ∃ H', callL ft (.fn (.func 32) [] []) [.ptr cid 0 0, .agg (opC2 o.kind kv)] H = some (ansV (doM nd root o ws).1, H') ∧ ∃ lv', Cur H' cid sv root lv' (doM nd root o ws).2 ∧ KeepC cid X H H' := by
  refine call_oE rfl (by simp) ?_
  have lw := Heap.get_lt hc.1
  have a1 : (opC2 o.kind kv).length = 2 := rfl
  have a2 : oneAll (opC2 o.kind kv) = true := by
    show (true && (kv.one && true)) = true
    rw [hn.one]; rfl
  have a3 : (opC2 o.kind kv).take 1 = [int o.kind] := rfl
  have a4 : ((opC2 o.kind kv).drop 1).take 1 = [kv] := rfl
  have hX' : cid ∉ X ∧ ∀ x ∈ X, x < (hx H [.box false (opC2 o.kind kv), .box false itemN]).next := ⟨hX.1, fun x hx => by have := hX.2 x hx; rw [hx_next]; omega⟩
  have hP' : P (hx H [.box false (opC2 o.kind kv), .box false itemN]) := hv.st _ _ hP fun id _ fz c h => ⟨fz, get_old h _⟩
  have cur1 := hc.hx [.box false (opC2 o.kind kv), .box false itemN]
  unfold c32 r32 doM
  by_cases c0 : o.kind = 0
  · simp only [c0, Int.reduceEq, if_true, if_false]
    simp only [c0] at a1 a2 a3 a4 hX' hP' cur1
    simp only [↓vp, vq0, vq1, vq2, vq3, vr0, vr1, vr2, vr3, vr4, vr5, vr6, vr7, vr8, vr9, vr10, vr11, vr12, vr13, vr14, vr15, vr16, vr17, vr18, vr19, vr20, vr21, vr22, vr23, vr24, vr25, vr26, vr27, vr28, vr29, vr30, vr31, vr32, vr33, vr34, opS, fpS, okP, pack, nAl, allocA, shId, leaves, fillA, fillR, splice, Nat.reduceLT, Nat.reduceEqDiff, Nat.reduceLeDiff, Nat.reduceAdd, Nat.reduceSub, Nat.reduceMul, Int.reduceBEq, Int.reduceBNe, Int.reduceLT, Int.reduceLE, Int.reduceEq, reduceIte, reduceCtorEq, da, int, boolA, c0, a1, a2, a3, a4]
    refine KW_ex (s37 hv hX' hP' cur1 hk hn) fun H' hP' => ?_
    obtain ⟨lv', p1, p2⟩ := hP'
    obtain ⟨gq4, ho4⟩ := new_old hX.2 hc p2 (i := 1) rfl
    obtain ⟨t1, t2, t3⟩ := tail_box gq4
    try simp only [itemN] at t1
    rw [← hx_nil H']
    unfold ansV
    simp only [↓vp, vq0, vq1, vq2, vq3, vr0, vr1, vr2, vr3, vr4, vr5, vr6, vr7, vr8, vr9, vr10, vr11, vr12, vr13, vr14, vr15, vr16, vr17, vr18, vr19, vr20, vr21, vr22, vr23, vr24, vr25, vr26, vr27, vr28, vr29, vr30, vr31, vr32, vr33, vr34, opS, fpS, okP, pack, nAl, allocA, shId, leaves, fillA, fillR, splice, Nat.reduceLT, Nat.reduceEqDiff, Nat.reduceLeDiff, Nat.reduceAdd, Nat.reduceSub, Nat.reduceMul, Int.reduceBEq, Int.reduceBNe, Int.reduceLT, Int.reduceLE, Int.reduceEq, reduceIte, reduceCtorEq, da, int, boolA, ir_one, ir_len, ir_take, t1, t2, t3, RetE_go, resT, resC, resN, retV3, cells_sc]
    rw [hx_nil]
    exact ⟨_, cur_set p1 ho4 _, keep_set ((KeepC.hx lw _).trans p2) (Nat.le_succ _) ho4 _⟩
  · skip
    by_cases c1 : o.kind = 1
    · simp only [c1, Int.reduceEq, if_true, if_false]
      simp only [c1] at a1 a2 a3 a4 hX' hP' cur1
      simp only [↓vp, vq0, vq1, vq2, vq3, vr0, vr1, vr2, vr3, vr4, vr5, vr6, vr7, vr8, vr9, vr10, vr11, vr12, vr13, vr14, vr15, vr16, vr17, vr18, vr19, vr20, vr21, vr22, vr23, vr24, vr25, vr26, vr27, vr28, vr29, vr30, vr31, vr32, vr33, vr34, opS, fpS, okP, pack, nAl, allocA, shId, leaves, fillA, fillR, splice, Nat.reduceLT, Nat.reduceEqDiff, Nat.reduceLeDiff, Nat.reduceAdd, Nat.reduceSub, Nat.reduceMul, Int.reduceBEq, Int.reduceBNe, Int.reduceLT, Int.reduceLE, Int.reduceEq, reduceIte, reduceCtorEq, da, int, boolA, c1, a1, a2, a3, a4]
      refine KW_ex (s33 hv hX' hP' cur1) fun H' hP' => ?_
      obtain ⟨lv', p1, p2⟩ := hP'
      obtain ⟨gq4, ho4⟩ := new_old hX.2 hc p2 (i := 1) rfl
      obtain ⟨t1, t2, t3⟩ := tail_box gq4
      try simp only [itemN] at t1
      rw [← hx_nil H']
      unfold ansV
      simp only [↓vp, vq0, vq1, vq2, vq3, vr0, vr1, vr2, vr3, vr4, vr5, vr6, vr7, vr8, vr9, vr10, vr11, vr12, vr13, vr14, vr15, vr16, vr17, vr18, vr19, vr20, vr21, vr22, vr23, vr24, vr25, vr26, vr27, vr28, vr29, vr30, vr31, vr32, vr33, vr34, opS, fpS, okP, pack, nAl, allocA, shId, leaves, fillA, fillR, splice, Nat.reduceLT, Nat.reduceEqDiff, Nat.reduceLeDiff, Nat.reduceAdd, Nat.reduceSub, Nat.reduceMul, Int.reduceBEq, Int.reduceBNe, Int.reduceLT, Int.reduceLE, Int.reduceEq, reduceIte, reduceCtorEq, da, int, boolA, ir_one, ir_len, ir_take, t1, t2, t3, RetE_go, resT, resC, resN, retV3, cells_sc]
      rw [hx_nil]
      exact ⟨_, cur_set p1 ho4 _, keep_set ((KeepC.hx lw _).trans p2) (Nat.le_succ _) ho4 _⟩
    · skip
      by_cases c2 : o.kind = 2
      · simp only [c2, Int.reduceEq, if_true, if_false]
        simp only [c2] at a1 a2 a3 a4 hX' hP' cur1
        simp only [↓vp, vq0, vq1, vq2, vq3, vr0, vr1, vr2, vr3, vr4, vr5, vr6, vr7, vr8, vr9, vr10, vr11, vr12, vr13, vr14, vr15, vr16, vr17, vr18, vr19, vr20, vr21, vr22, vr23, vr24, vr25, vr26, vr27, vr28, vr29, vr30, vr31, vr32, vr33, vr34, opS, fpS, okP, pack, nAl, allocA, shId, leaves, fillA, fillR, splice, Nat.reduceLT, Nat.reduceEqDiff, Nat.reduceLeDiff, Nat.reduceAdd, Nat.reduceSub, Nat.reduceMul, Int.reduceBEq, Int.reduceBNe, Int.reduceLT, Int.reduceLE, Int.reduceEq, reduceIte, reduceCtorEq, da, int, boolA, c2, a1, a2, a3, a4]
        refine KW_ex (s35 hv hX' hP' cur1) fun H' hP' => ?_
        obtain ⟨lv', p1, p2⟩ := hP'
        obtain ⟨gq4, ho4⟩ := new_old hX.2 hc p2 (i := 1) rfl
        obtain ⟨t1, t2, t3⟩ := tail_box gq4
        try simp only [itemN] at t1
        rw [← hx_nil H']
        unfold ansV
        simp only [↓vp, vq0, vq1, vq2, vq3, vr0, vr1, vr2, vr3, vr4, vr5, vr6, vr7, vr8, vr9, vr10, vr11, vr12, vr13, vr14, vr15, vr16, vr17, vr18, vr19, vr20, vr21, vr22, vr23, vr24, vr25, vr26, vr27, vr28, vr29, vr30, vr31, vr32, vr33, vr34, opS, fpS, okP, pack, nAl, allocA, shId, leaves, fillA, fillR, splice, Nat.reduceLT, Nat.reduceEqDiff, Nat.reduceLeDiff, Nat.reduceAdd, Nat.reduceSub, Nat.reduceMul, Int.reduceBEq, Int.reduceBNe, Int.reduceLT, Int.reduceLE, Int.reduceEq, reduceIte, reduceCtorEq, da, int, boolA, ir_one, ir_len, ir_take, t1, t2, t3, RetE_go, resT, resC, resN, retV3, cells_sc]
        rw [hx_nil]
        exact ⟨_, cur_set p1 ho4 _, keep_set ((KeepC.hx lw _).trans p2) (Nat.le_succ _) ho4 _⟩
      · skip
        by_cases c3 : o.kind = 3
        · simp only [c3, Int.reduceEq, if_true, if_false]
          simp only [c3] at a1 a2 a3 a4 hX' hP' cur1
          simp only [↓vp, vq0, vq1, vq2, vq3, vr0, vr1, vr2, vr3, vr4, vr5, vr6, vr7, vr8, vr9, vr10, vr11, vr12, vr13, vr14, vr15, vr16, vr17, vr18, vr19, vr20, vr21, vr22, vr23, vr24, vr25, vr26, vr27, vr28, vr29, vr30, vr31, vr32, vr33, vr34, opS, fpS, okP, pack, nAl, allocA, shId, leaves, fillA, fillR, splice, Nat.reduceLT, Nat.reduceEqDiff, Nat.reduceLeDiff, Nat.reduceAdd, Nat.reduceSub, Nat.reduceMul, Int.reduceBEq, Int.reduceBNe, Int.reduceLT, Int.reduceLE, Int.reduceEq, reduceIte, reduceCtorEq, da, int, boolA, c3, a1, a2, a3, a4]
          refine KW_ex (s34 hv hX' hP' cur1 hws hwl9 hkl) fun H' hP' => ?_
          obtain ⟨lv', p1, p2⟩ := hP'
          obtain ⟨gq4, ho4⟩ := new_old hX.2 hc p2 (i := 1) rfl
          obtain ⟨t1, t2, t3⟩ := tail_box gq4
          try simp only [itemN] at t1
          rw [← hx_nil H']
          unfold ansV
          simp only [↓vp, vq0, vq1, vq2, vq3, vr0, vr1, vr2, vr3, vr4, vr5, vr6, vr7, vr8, vr9, vr10, vr11, vr12, vr13, vr14, vr15, vr16, vr17, vr18, vr19, vr20, vr21, vr22, vr23, vr24, vr25, vr26, vr27, vr28, vr29, vr30, vr31, vr32, vr33, vr34, opS, fpS, okP, pack, nAl, allocA, shId, leaves, fillA, fillR, splice, Nat.reduceLT, Nat.reduceEqDiff, Nat.reduceLeDiff, Nat.reduceAdd, Nat.reduceSub, Nat.reduceMul, Int.reduceBEq, Int.reduceBNe, Int.reduceLT, Int.reduceLE, Int.reduceEq, reduceIte, reduceCtorEq, da, int, boolA, ir_one, ir_len, ir_take, t1, t2, t3, RetE_go, resT, resC, resN, retV3, cells_sc]
          rw [hx_nil]
          exact ⟨_, cur_set p1 ho4 _, keep_set ((KeepC.hx lw _).trans p2) (Nat.le_succ _) ho4 _⟩
        · skip
          simp only [c0, c1, c2, c3, if_false]
          have d0 : (o.kind == 0) = false := by simpa using c0
          have d1 : (o.kind == 1) = false := by simpa using c1
          have d2 : (o.kind == 2) = false := by simpa using c2
          have d3 : (o.kind == 3) = false := by simpa using c3
          simp only [↓vp, vq0, vq1, vq2, vq3, vr0, vr1, vr2, vr3, vr4, vr5, vr6, vr7, vr8, vr9, vr10, vr11, vr12, vr13, vr14, vr15, vr16, vr17, vr18, vr19, vr20, vr21, vr22, vr23, vr24, vr25, vr26, vr27, vr28, vr29, vr30, vr31, vr32, vr33, vr34, opS, fpS, okP, pack, nAl, allocA, shId, leaves, fillA, fillR, splice, Nat.reduceLT, Nat.reduceEqDiff, Nat.reduceLeDiff, Nat.reduceAdd, Nat.reduceSub, Nat.reduceMul, Int.reduceBEq, Int.reduceBNe, Int.reduceLT, Int.reduceLE, Int.reduceEq, reduceIte, reduceCtorEq, da, int, boolA, d0, d1, d2, d3, a1, a2, a3, a4]
          refine KW_ex (s36 hv hX' hP' cur1 hws hwl9 hkl) fun H' hP' => ?_
          obtain ⟨lv', p1, p2⟩ := hP'
          obtain ⟨gq4, ho4⟩ := new_old hX.2 hc p2 (i := 1) rfl
          obtain ⟨t1, t2, t3⟩ := tail_box gq4
          try simp only [itemN] at t1
          rw [← hx_nil H']
          unfold ansV
          simp only [↓vp, vq0, vq1, vq2, vq3, vr0, vr1, vr2, vr3, vr4, vr5, vr6, vr7, vr8, vr9, vr10, vr11, vr12, vr13, vr14, vr15, vr16, vr17, vr18, vr19, vr20, vr21, vr22, vr23, vr24, vr25, vr26, vr27, vr28, vr29, vr30, vr31, vr32, vr33, vr34, opS, fpS, okP, pack, nAl, allocA, shId, leaves, fillA, fillR, splice, Nat.reduceLT, Nat.reduceEqDiff, Nat.reduceLeDiff, Nat.reduceAdd, Nat.reduceSub, Nat.reduceMul, Int.reduceBEq, Int.reduceBNe, Int.reduceLT, Int.reduceLE, Int.reduceEq, reduceIte, reduceCtorEq, da, int, boolA, ir_one, ir_len, ir_take, t1, t2, t3, RetE_go, resT, resC, resN, retV3, cells_sc]
          rw [hx_nil]
          exact ⟨_, cur_set p1 ho4 _, keep_set ((KeepC.hx lw _).trans p2) (Nat.le_succ _) ho4 _⟩
end
end Go.VI

set_option linter.unusedVariables false
set_option linter.unusedSimpArgs false
set_option maxRecDepth 100000
namespace Go.VI
attribute [local congr] AW_congr OW_congr DW_congr NW_congr VW_congr GW_congr PW_congr KW_congr ite_congr' GV_congr CV_congr
def opK (o : OpM) : List AV := [int o.kind, encB o.key]
def encO (l : List OpM) : AV := .lst (l.map opK)
theorem len_opK (o : OpM) : (opK o).length = 2 := rfl
theorem lenO (H : Heap) (l : List OpM) : lenV H 0 (encO l) = some (.sc (.int .i64 (l.length : Int)), H) := by simp [lenV, lenOfA, encO]
theorem atO {H : Heap} {l : List OpM} {i : Nat} (h : i < l.length) : iaddrA H none 2 (encO l) (i : Int) = some (.pim (l.map opK) i 0) := iaddr_map h len_opK
theorem cO {H : Heap} {l : List OpM} {i off n : Nat} (h : i < l.length) : cellsAt H (.pim (l.map opK) i off) n = if off + n ≤ 2 then some (((opK l[i]).drop off).take n) else none := cells_map h
theorem o_all (o : OpM) : (opK o).take 2 = opK o := rfl
theorem o_0 (o : OpM) : (opK o).take 1 = [int o.kind] := rfl
theorem o_1 (o : OpM) : ((opK o).drop 1).take 1 = [encB o.key] := rfl
theorem o_one (o : OpM) : oneAll (opK o) = true := rfl
structure okO (l : List OpM) : Prop where
  n : l.length < MX
  k : ∀ o ∈ l, okB o.key
def shortM : List OpM → Bool
  | [] => true
  | o :: r => !(decide ((100 : Int) < o.key.length)) && shortM r
def fewS (l : List NamedM) (sc : List OpM) : Bool := shortM sc && (fewM l && decide ((sc.length : Int) ≤ 100))
theorem l27 (l : List NamedM) (sc : List OpM) (hl : okL l) {Q : AExit → Env → Heap → Prop} (hex : ∀ f' K, f' 0 = encL l → f' 1 = encO sc → f' 5 = int (sumM 0 l) → Q (.exit 0) (mkE 51 f') (hx K [])) :
   ∀ (d i : Nat) (s : Int) (K : Heap) (f : Nat → AV), i + d = l.length → sumM 0 l = sumM s (l.drop i) → f 0 = encL l → f 1 = encO sc → f 10 = encL l → f 11 = int l.length → f 5 = int s → f 12 = int i →
    AW ft (.loop c27L0) (mkE 51 f) (hx K []) Q := by
  intro d
  have hi := hl.n
  unfold MX at hi
  induction d with
  | zero =>
    intro i s K f hd hc h0 h1 h6 h7 h3 h8
    have g : ((i : Int) < l.length) = False := by simp; omega
    rw [AW_loop]
    unfold c27L0
    rw [List.drop_eq_nil_of_le (by omega)] at hc
    simp only [↓vp, vq0, vq1, vq2, vq3, vr0, vr1, vr2, vr3, vr4, vr5, vr6, vr7, vr8, vr9, vr10, vr11, vr12, vr13, vr14, vr15, vr16, vr17, vr18, vr19, vr20, vr21, vr22, vr23, vr24, vr25, vr26, vr27, vr28, vr29, vr30, vr31, vr32, vr33, vr34, opS, fpS, okP, pack, nAl, allocA, shId, leaves, fillA, fillR, splice, Nat.reduceLT, Nat.reduceEqDiff, Nat.reduceLeDiff, Nat.reduceAdd, Nat.reduceSub, Nat.reduceMul, Int.reduceBEq, Int.reduceBNe, Int.reduceLT, Int.reduceLE, Int.reduceEq, reduceIte, reduceCtorEq, int, h7, h8, g]
    refine hex _ _ ?_ ?_ ?_
    · simp only [↓vp, vq0, vq1, vq2, vq3, vr0, vr1, vr2, vr3, vr4, vr5, vr6, vr7, vr8, vr9, vr10, vr11, vr12, vr13, vr14, vr15, vr16, vr17, vr18, vr19, vr20, vr21, vr22, vr23, vr24, vr25, vr26, vr27, vr28, vr29, vr30, vr31, vr32, vr33, vr34, opS, fpS, okP, pack, nAl, allocA, shId, leaves, fillA, fillR, splice, Nat.reduceLT, Nat.reduceEqDiff, Nat.reduceLeDiff, Nat.reduceAdd, Nat.reduceSub, Nat.reduceMul, Int.reduceBEq, Int.reduceBNe, Int.reduceLT, Int.reduceLE, Int.reduceEq, reduceIte, reduceCtorEq, h0]
    · simp only [↓vp, vq0, vq1, vq2, vq3, vr0, vr1, vr2, vr3, vr4, vr5, vr6, vr7, vr8, vr9, vr10, vr11, vr12, vr13, vr14, vr15, vr16, vr17, vr18, vr19, vr20, vr21, vr22, vr23, vr24, vr25, vr26, vr27, vr28, vr29, vr30, vr31, vr32, vr33, vr34, opS, fpS, okP, pack, nAl, allocA, shId, leaves, fillA, fillR, splice, Nat.reduceLT, Nat.reduceEqDiff, Nat.reduceLeDiff, Nat.reduceAdd, Nat.reduceSub, Nat.reduceMul, Int.reduceBEq, Int.reduceBNe, Int.reduceLT, Int.reduceLE, Int.reduceEq, reduceIte, reduceCtorEq, h1]
    · simp only [↓vp, vq0, vq1, vq2, vq3, vr0, vr1, vr2, vr3, vr4, vr5, vr6, vr7, vr8, vr9, vr10, vr11, vr12, vr13, vr14, vr15, vr16, vr17, vr18, vr19, vr20, vr21, vr22, vr23, vr24, vr25, vr26, vr27, vr28, vr29, vr30, vr31, vr32, vr33, vr34, opS, fpS, okP, pack, nAl, allocA, shId, leaves, fillA, fillR, splice, Nat.reduceLT, Nat.reduceEqDiff, Nat.reduceLeDiff, Nat.reduceAdd, Nat.reduceSub, Nat.reduceMul, Int.reduceBEq, Int.reduceBNe, Int.reduceLT, Int.reduceLE, Int.reduceEq, reduceIte, reduceCtorEq, h3, hc, sumM]
  | succ d ih =>
    intro i s K f hd hc h0 h1 h6 h7 h3 h8
    have g : ((i : Int) < l.length) = True := by simp; omega
    have gi : i < l.length := by omega
    rw [AW_loop]
    unfold c27L0
    rw [List.drop_eq_getElem_cons gi, sumM] at hc
    have w1 := wrap_succ (show i < 9223372036854775807 by omega)
    simp only [↓vp, vq0, vq1, vq2, vq3, vr0, vr1, vr2, vr3, vr4, vr5, vr6, vr7, vr8, vr9, vr10, vr11, vr12, vr13, vr14, vr15, vr16, vr17, vr18, vr19, vr20, vr21, vr22, vr23, vr24, vr25, vr26, vr27, vr28, vr29, vr30, vr31, vr32, vr33, vr34, opS, fpS, okP, pack, nAl, allocA, shId, leaves, fillA, fillR, splice, Nat.reduceLT, Nat.reduceEqDiff, Nat.reduceLeDiff, Nat.reduceAdd, Nat.reduceSub, Nat.reduceMul, Int.reduceBEq, Int.reduceBNe, Int.reduceLT, Int.reduceLE, Int.reduceEq, reduceIte, reduceCtorEq, int, boolA, lenI, lenK, h0, h1, h3, h6, h7, h8, g, atL gi, cL gi, namedC, nodeC, one_I, one_K, w1]
    rw [← hx_nil (hx K _)]
    refine ih (i + 1) _ _ _ (by omega) hc ?_ ?_ ?_ ?_ ?_ ?_ <;> simp only [↓vp, vq0, vq1, vq2, vq3, vr0, vr1, vr2, vr3, vr4, vr5, vr6, vr7, vr8, vr9, vr10, vr11, vr12, vr13, vr14, vr15, vr16, vr17, vr18, vr19, vr20, vr21, vr22, vr23, vr24, vr25, vr26, vr27, vr28, vr29, vr30, vr31, vr32, vr33, vr34, opS, fpS, okP, pack, nAl, allocA, shId, leaves, fillA, fillR, splice, Nat.reduceLT, Nat.reduceEqDiff, Nat.reduceLeDiff, Nat.reduceAdd, Nat.reduceSub, Nat.reduceMul, Int.reduceBEq, Int.reduceBNe, Int.reduceLT, Int.reduceLE, Int.reduceEq, reduceIte, reduceCtorEq, h0, h1, h3, h6, h7, int]
theorem l27b (l : List NamedM) (s : Int) (sc : List OpM) (hs : okO sc) (R : Bool) {Q : AExit → Env → Heap → Prop} (hex : ∀ f' K, R = true → f' 0 = encL l → f' 1 = encO sc → f' 5 = int s → Q (.exit 2) (mkE 51 f') (hx K []))
   (hret : ∀ f' K L, R = false → f' 4 = boolA false → Q .ret (mkE 51 f') (hx K L)) :
   ∀ (d i : Nat) (K : Heap) (f : Nat → AV), i + d = sc.length → R = shortM (sc.drop i) → f 0 = encL l → f 1 = encO sc → f 28 = encO sc → f 29 = int sc.length → f 5 = int s → f 30 = int i →
    AW ft (.loop c27L1) (mkE 51 f) (hx K []) Q := by
  intro d
  have hi := hs.n
  unfold MX at hi
  induction d with
  | zero =>
    intro i K f hd hc h0 h1 h6 h7 h3 h8
    have g : ((i : Int) < sc.length) = False := by simp; omega
    rw [AW_loop]
    unfold c27L1
    rw [List.drop_eq_nil_of_le (by omega)] at hc
    simp only [↓vp, vq0, vq1, vq2, vq3, vr0, vr1, vr2, vr3, vr4, vr5, vr6, vr7, vr8, vr9, vr10, vr11, vr12, vr13, vr14, vr15, vr16, vr17, vr18, vr19, vr20, vr21, vr22, vr23, vr24, vr25, vr26, vr27, vr28, vr29, vr30, vr31, vr32, vr33, vr34, opS, fpS, okP, pack, nAl, allocA, shId, leaves, fillA, fillR, splice, Nat.reduceLT, Nat.reduceEqDiff, Nat.reduceLeDiff, Nat.reduceAdd, Nat.reduceSub, Nat.reduceMul, Int.reduceBEq, Int.reduceBNe, Int.reduceLT, Int.reduceLE, Int.reduceEq, reduceIte, reduceCtorEq, int, h7, h8, g]
    refine hex _ _ hc ?_ ?_ ?_ <;> simp only [↓vp, vq0, vq1, vq2, vq3, vr0, vr1, vr2, vr3, vr4, vr5, vr6, vr7, vr8, vr9, vr10, vr11, vr12, vr13, vr14, vr15, vr16, vr17, vr18, vr19, vr20, vr21, vr22, vr23, vr24, vr25, vr26, vr27, vr28, vr29, vr30, vr31, vr32, vr33, vr34, opS, fpS, okP, pack, nAl, allocA, shId, leaves, fillA, fillR, splice, Nat.reduceLT, Nat.reduceEqDiff, Nat.reduceLeDiff, Nat.reduceAdd, Nat.reduceSub, Nat.reduceMul, Int.reduceBEq, Int.reduceBNe, Int.reduceLT, Int.reduceLE, Int.reduceEq, reduceIte, reduceCtorEq, h0, h1, h3]
  | succ d ih =>
    intro i K f hd hc h0 h1 h6 h7 h3 h8
    have g : ((i : Int) < sc.length) = True := by simp; omega
    have gi : i < sc.length := by omega
    rw [AW_loop]
    unfold c27L1
    rw [List.drop_eq_getElem_cons gi, shortM] at hc
    have w1 := wrap_succ (show i < 9223372036854775807 by omega)
    cases e1 : decide ((100 : Int) < sc[i].key.length) with
    | true =>
      rw [e1] at hc
      have e1' : ((100 : Int) < sc[i].key.length) = True := eq_true (by simpa using e1)
      simp only [↓vp, vq0, vq1, vq2, vq3, vr0, vr1, vr2, vr3, vr4, vr5, vr6, vr7, vr8, vr9, vr10, vr11, vr12, vr13, vr14, vr15, vr16, vr17, vr18, vr19, vr20, vr21, vr22, vr23, vr24, vr25, vr26, vr27, vr28, vr29, vr30, vr31, vr32, vr33, vr34, opS, fpS, okP, pack, nAl, allocA, shId, leaves, fillA, fillR, splice, Nat.reduceLT, Nat.reduceEqDiff, Nat.reduceLeDiff, Nat.reduceAdd, Nat.reduceSub, Nat.reduceMul, Int.reduceBEq, Int.reduceBNe, Int.reduceLT, Int.reduceLE, Int.reduceEq, reduceIte, reduceCtorEq, da, int, boolA, h0, h1, h3, h6, h7, h8, g, atO gi, cO gi, o_all, o_1, o_one, len_opK, e1']
      refine hret _ _ _ (by simpa using hc) ?_
      simp only [↓vp, vq0, vq1, vq2, vq3, vr0, vr1, vr2, vr3, vr4, vr5, vr6, vr7, vr8, vr9, vr10, vr11, vr12, vr13, vr14, vr15, vr16, vr17, vr18, vr19, vr20, vr21, vr22, vr23, vr24, vr25, vr26, vr27, vr28, vr29, vr30, vr31, vr32, vr33, vr34, opS, fpS, okP, pack, nAl, allocA, shId, leaves, fillA, fillR, splice, Nat.reduceLT, Nat.reduceEqDiff, Nat.reduceLeDiff, Nat.reduceAdd, Nat.reduceSub, Nat.reduceMul, Int.reduceBEq, Int.reduceBNe, Int.reduceLT, Int.reduceLE, Int.reduceEq, reduceIte, reduceCtorEq, da, int, boolA]
    | false =>
      rw [e1] at hc
      have e1' : ((100 : Int) < sc[i].key.length) = False := eq_false (by simpa using e1)
      simp only [↓vp, vq0, vq1, vq2, vq3, vr0, vr1, vr2, vr3, vr4, vr5, vr6, vr7, vr8, vr9, vr10, vr11, vr12, vr13, vr14, vr15, vr16, vr17, vr18, vr19, vr20, vr21, vr22, vr23, vr24, vr25, vr26, vr27, vr28, vr29, vr30, vr31, vr32, vr33, vr34, opS, fpS, okP, pack, nAl, allocA, shId, leaves, fillA, fillR, splice, Nat.reduceLT, Nat.reduceEqDiff, Nat.reduceLeDiff, Nat.reduceAdd, Nat.reduceSub, Nat.reduceMul, Int.reduceBEq, Int.reduceBNe, Int.reduceLT, Int.reduceLE, Int.reduceEq, reduceIte, reduceCtorEq, da, int, boolA, h0, h1, h3, h6, h7, h8, g, atO gi, cO gi, o_all, o_1, o_one, len_opK, e1', w1]
      rw [← hx_nil (hx K _)]
      refine ih (i + 1) _ _ (by omega) (by simpa using hc) ?_ ?_ ?_ ?_ ?_ ?_ <;> simp only [↓vp, vq0, vq1, vq2, vq3, vr0, vr1, vr2, vr3, vr4, vr5, vr6, vr7, vr8, vr9, vr10, vr11, vr12, vr13, vr14, vr15, vr16, vr17, vr18, vr19, vr20, vr21, vr22, vr23, vr24, vr25, vr26, vr27, vr28, vr29, vr30, vr31, vr32, vr33, vr34, opS, fpS, okP, pack, nAl, allocA, shId, leaves, fillA, fillR, splice, Nat.reduceLT, Nat.reduceEqDiff, Nat.reduceLeDiff, Nat.reduceAdd, Nat.reduceSub, Nat.reduceMul, Int.reduceBEq, Int.reduceBNe, Int.reduceLT, Int.reduceLE, Int.reduceEq, reduceIte, reduceCtorEq, da, int, boolA, h0, h1, h3, h6, h7]
theorem s27 (l : List NamedM) (hl : okL l) (sc : List OpM) (hs : okO sc) (H : Heap) : callL ft (.fn (.func 27) [] []) [encL l, encO sc] H = some (boolA (fewS l sc), H) := by
  refine call_p (as' := [encL l, encO sc]) rfl rfl (by simp) ?_
  unfold c27 r27
  simp only [↓vp, vq0, vq1, vq2, vq3, vr0, vr1, vr2, vr3, vr4, vr5, vr6, vr7, vr8, vr9, vr10, vr11, vr12, vr13, vr14, vr15, vr16, vr17, vr18, vr19, vr20, vr21, vr22, vr23, vr24, vr25, vr26, vr27, vr28, vr29, vr30, vr31, vr32, vr33, vr34, opS, fpS, okP, pack, nAl, allocA, shId, leaves, fillA, fillR, splice, Nat.reduceLT, Nat.reduceEqDiff, Nat.reduceLeDiff, Nat.reduceAdd, Nat.reduceSub, Nat.reduceMul, Int.reduceBEq, Int.reduceBNe, Int.reduceLT, Int.reduceLE, Int.reduceEq, reduceIte, reduceCtorEq, da, int, boolA]
  refine l27 l sc hl (fun f' K h0 h1 h5 => ?_) l.length 0 0 _ _ (by omega) rfl ?_ ?_ ?_ ?_ ?_ ?_
  · unfold c27R3
    simp only [↓vp, vq0, vq1, vq2, vq3, vr0, vr1, vr2, vr3, vr4, vr5, vr6, vr7, vr8, vr9, vr10, vr11, vr12, vr13, vr14, vr15, vr16, vr17, vr18, vr19, vr20, vr21, vr22, vr23, vr24, vr25, vr26, vr27, vr28, vr29, vr30, vr31, vr32, vr33, vr34, opS, fpS, okP, pack, nAl, allocA, shId, leaves, fillA, fillR, splice, Nat.reduceLT, Nat.reduceEqDiff, Nat.reduceLeDiff, Nat.reduceAdd, Nat.reduceSub, Nat.reduceMul, Int.reduceBEq, Int.reduceBNe, Int.reduceLT, Int.reduceLE, Int.reduceEq, reduceIte, reduceCtorEq, da, int, boolA, h0, h1, h5, lenO]
    rw [← hx_nil (hx K _)]
    refine l27b l (sumM 0 l) sc hs (shortM sc) (fun f' K hR h0 h1 h5 => ?_) (fun f' K L hR h4 => ?_) sc.length 0 _ _ (by omega) rfl ?_ ?_ ?_ ?_ ?_ ?_
    · unfold c27R2 fewS fewM
      rw [hR]
      cases e : decide ((l.length : Int) ≤ 40) with
      | true =>
        cases e2 : decide (sumM 0 l ≤ 200) with
        | true => simp only [↓vp, vq0, vq1, vq2, vq3, vr0, vr1, vr2, vr3, vr4, vr5, vr6, vr7, vr8, vr9, vr10, vr11, vr12, vr13, vr14, vr15, vr16, vr17, vr18, vr19, vr20, vr21, vr22, vr23, vr24, vr25, vr26, vr27, vr28, vr29, vr30, vr31, vr32, vr33, vr34, opS, fpS, okP, pack, nAl, allocA, shId, leaves, fillA, fillR, splice, Nat.reduceLT, Nat.reduceEqDiff, Nat.reduceLeDiff, Nat.reduceAdd, Nat.reduceSub, Nat.reduceMul, Int.reduceBEq, Int.reduceBNe, Int.reduceLT, Int.reduceLE, Int.reduceEq, reduceIte, reduceCtorEq, da, int, boolA, RetP_go, resT, resC, resN, retV1, retV2, retV3, retV0, frzFZ, takeM, Option.some.injEq, h0, h1, h5, lenO, e, e2]; try rfl
        | false => simp only [↓vp, vq0, vq1, vq2, vq3, vr0, vr1, vr2, vr3, vr4, vr5, vr6, vr7, vr8, vr9, vr10, vr11, vr12, vr13, vr14, vr15, vr16, vr17, vr18, vr19, vr20, vr21, vr22, vr23, vr24, vr25, vr26, vr27, vr28, vr29, vr30, vr31, vr32, vr33, vr34, opS, fpS, okP, pack, nAl, allocA, shId, leaves, fillA, fillR, splice, Nat.reduceLT, Nat.reduceEqDiff, Nat.reduceLeDiff, Nat.reduceAdd, Nat.reduceSub, Nat.reduceMul, Int.reduceBEq, Int.reduceBNe, Int.reduceLT, Int.reduceLE, Int.reduceEq, reduceIte, reduceCtorEq, da, int, boolA, RetP_go, resT, resC, resN, retV1, retV2, retV3, retV0, frzFZ, takeM, Option.some.injEq, h0, h1, h5, lenO, e, e2]; try rfl
      | false => simp only [↓vp, vq0, vq1, vq2, vq3, vr0, vr1, vr2, vr3, vr4, vr5, vr6, vr7, vr8, vr9, vr10, vr11, vr12, vr13, vr14, vr15, vr16, vr17, vr18, vr19, vr20, vr21, vr22, vr23, vr24, vr25, vr26, vr27, vr28, vr29, vr30, vr31, vr32, vr33, vr34, opS, fpS, okP, pack, nAl, allocA, shId, leaves, fillA, fillR, splice, Nat.reduceLT, Nat.reduceEqDiff, Nat.reduceLeDiff, Nat.reduceAdd, Nat.reduceSub, Nat.reduceMul, Int.reduceBEq, Int.reduceBNe, Int.reduceLT, Int.reduceLE, Int.reduceEq, reduceIte, reduceCtorEq, da, int, boolA, RetP_go, resT, resC, resN, retV1, retV2, retV3, retV0, frzFZ, takeM, Option.some.injEq, h0, h1, h5, lenO, e]; try rfl
    · unfold fewS
      rw [hR]
      simp only [↓vp, vq0, vq1, vq2, vq3, vr0, vr1, vr2, vr3, vr4, vr5, vr6, vr7, vr8, vr9, vr10, vr11, vr12, vr13, vr14, vr15, vr16, vr17, vr18, vr19, vr20, vr21, vr22, vr23, vr24, vr25, vr26, vr27, vr28, vr29, vr30, vr31, vr32, vr33, vr34, opS, fpS, okP, pack, nAl, allocA, shId, leaves, fillA, fillR, splice, Nat.reduceLT, Nat.reduceEqDiff, Nat.reduceLeDiff, Nat.reduceAdd, Nat.reduceSub, Nat.reduceMul, Int.reduceBEq, Int.reduceBNe, Int.reduceLT, Int.reduceLE, Int.reduceEq, reduceIte, reduceCtorEq, da, int, boolA, RetP_go, resT, resC, resN, retV1, retV2, retV3, retV0, frzFZ, takeM, Option.some.injEq, h4]
      rfl
    all_goals first | rfl | (simp only [↓vp, vq0, vq1, vq2, vq3, vr0, vr1, vr2, vr3, vr4, vr5, vr6, vr7, vr8, vr9, vr10, vr11, vr12, vr13, vr14, vr15, vr16, vr17, vr18, vr19, vr20, vr21, vr22, vr23, vr24, vr25, vr26, vr27, vr28, vr29, vr30, vr31, vr32, vr33, vr34, opS, fpS, okP, pack, nAl, allocA, shId, leaves, fillA, fillR, splice, Nat.reduceLT, Nat.reduceEqDiff, Nat.reduceLeDiff, Nat.reduceAdd, Nat.reduceSub, Nat.reduceMul, Int.reduceBEq, Int.reduceBNe, Int.reduceLT, Int.reduceLE, Int.reduceEq, reduceIte, reduceCtorEq, da, int, boolA, h0, h1, h5]; done)
  all_goals first | rfl | (simp only [↓vp, vq0, vq1, vq2, vq3, vr0, vr1, vr2, vr3, vr4, vr5, vr6, vr7, vr8, vr9, vr10, vr11, vr12, vr13, vr14, vr15, vr16, vr17, vr18, vr19, vr20, vr21, vr22, vr23, vr24, vr25, vr26, vr27, vr28, vr29, vr30, vr31, vr32, vr33, vr34, opS, fpS, okP, pack, nAl, allocA, shId, leaves, fillA, fillR, splice, Nat.reduceLT, Nat.reduceEqDiff, Nat.reduceLeDiff, Nat.reduceAdd, Nat.reduceSub, Nat.reduceMul, Int.reduceBEq, Int.reduceBNe, Int.reduceLT, Int.reduceLE, Int.reduceEq, reduceIte, reduceCtorEq, da, int, boolA]; done)
theorem k27 {l : List NamedM} (hl : okL l) {sc : List OpM} (hs : okO sc) {K : Heap} {L : List Blk} {Q : AV → Heap → Prop} : KW ft (.fn (.func 27) [] []) [encL l, encO sc] (hx K L) Q ↔ Q (boolA (fewS l sc)) (hx K L) := KW_of (s27 l hl sc hs _)
theorem l29 (its : List ItemM) (e : Int) (hi : its.length ≤ 1000000) {Q : AExit → Env → Heap → Prop} (hex : ∀ f' K S, Rep K 4 S (its.map itemC) → f' 8 = S → f' 7 = int e → Q (.exit 0) (mkE 33 f') (hx K [])) :
   ∀ (d i : Nat) (S : AV) (K : Heap) (f : Nat → AV), i + d = its.length → Rep K 4 S ((its.take i).map itemC) → f 8 = S → f 7 = int e → f 19 = encI its → f 20 = int its.length → f 21 = int i →
    AW ft (.loop c29L0) (mkE 33 f) (hx K []) Q := by
  intro d
  induction d with
  | zero =>
    intro i S K f hd hr h8 h7 h19 h20 h21
    have g : ((i : Int) < its.length) = False := by simp; omega
    rw [AW_loop]
    unfold c29L0
    rw [List.take_of_length_le (by omega)] at hr
    simp only [↓vp, vq0, vq1, vq2, vq3, vr0, vr1, vr2, vr3, vr4, vr5, vr6, vr7, vr8, vr9, vr10, vr11, vr12, vr13, vr14, vr15, vr16, vr17, vr18, vr19, vr20, vr21, vr22, vr23, vr24, vr25, vr26, vr27, vr28, vr29, vr30, vr31, vr32, vr33, vr34, opS, fpS, okP, pack, nAl, allocA, shId, leaves, fillA, fillR, splice, Nat.reduceLT, Nat.reduceEqDiff, Nat.reduceLeDiff, Nat.reduceAdd, Nat.reduceSub, Nat.reduceMul, Int.reduceBEq, Int.reduceBNe, Int.reduceLT, Int.reduceLE, Int.reduceEq, reduceIte, reduceCtorEq, da, int, boolA, h20, h21, g]
    refine hex _ K S hr ?_ ?_ <;> simp only [↓vp, vq0, vq1, vq2, vq3, vr0, vr1, vr2, vr3, vr4, vr5, vr6, vr7, vr8, vr9, vr10, vr11, vr12, vr13, vr14, vr15, vr16, vr17, vr18, vr19, vr20, vr21, vr22, vr23, vr24, vr25, vr26, vr27, vr28, vr29, vr30, vr31, vr32, vr33, vr34, opS, fpS, okP, pack, nAl, allocA, shId, leaves, fillA, fillR, splice, Nat.reduceLT, Nat.reduceEqDiff, Nat.reduceLeDiff, Nat.reduceAdd, Nat.reduceSub, Nat.reduceMul, Int.reduceBEq, Int.reduceBNe, Int.reduceLT, Int.reduceLE, Int.reduceEq, reduceIte, reduceCtorEq, da, int, boolA, h8, h7]
  | succ d ih =>
    intro i S K f hd hr h8 h7 h19 h20 h21
    have g : ((i : Int) < its.length) = True := by simp; omega
    have gi : i < its.length := by omega
    have w1 := wrap_succ (show i < 9223372036854775807 by omega)
    have ht := rep_take itemC gi
    have hlen : ((its.take i).map itemC).length = i := by simp; omega
    have ap := fun nid L => appA_rep (nid := nid) (bytes := 64) hr (xs := [itemC its[i]]) (by simp) rfl (by rw [hlen]; simp; omega) L
    have hlt : (its.take i).length = i := by simp; omega
    have lI : (itemC its[i]).length = 4 := rfl
    rw [AW_loop]
    unfold c29L0
    simp only [↓vp, vq0, vq1, vq2, vq3, vr0, vr1, vr2, vr3, vr4, vr5, vr6, vr7, vr8, vr9, vr10, vr11, vr12, vr13, vr14, vr15, vr16, vr17, vr18, vr19, vr20, vr21, vr22, vr23, vr24, vr25, vr26, vr27, vr28, vr29, vr30, vr31, vr32, vr33, vr34, opS, fpS, okP, pack, nAl, allocA, shId, leaves, fillA, fillR, splice, Nat.reduceLT, Nat.reduceEqDiff, Nat.reduceLeDiff, Nat.reduceAdd, Nat.reduceSub, Nat.reduceMul, Int.reduceBEq, Int.reduceBNe, Int.reduceLT, Int.reduceLE, Int.reduceEq, reduceIte, reduceCtorEq, da, int, boolA, h7, h8, h19, h20, h21, g, atI gi, cI gi, ap, kill_next, w1, hlt, lI]
    rw [← hx_nil (hx _ _)]
    refine ih (i + 1) (.sl (K.next + 2) 0 (i + 1)) _ _ (by omega) (.inr ⟨K.next + 2, ?_, ?_⟩) ?_ ?_ ?_ ?_ ?_
    · rw [ht, List.length_append, hlen]
      rfl
    · rw [ht]
      simp only [↓vp, vq0, vq1, vq2, vq3, vr0, vr1, vr2, vr3, vr4, vr5, vr6, vr7, vr8, vr9, vr10, vr11, vr12, vr13, vr14, vr15, vr16, vr17, vr18, vr19, vr20, vr21, vr22, vr23, vr24, vr25, vr26, vr27, vr28, vr29, vr30, vr31, vr32, vr33, vr34, opS, fpS, okP, pack, nAl, allocA, shId, leaves, fillA, fillR, splice, Nat.reduceLT, Nat.reduceEqDiff, Nat.reduceLeDiff, Nat.reduceAdd, Nat.reduceSub, Nat.reduceMul, Int.reduceBEq, Int.reduceBNe, Int.reduceLT, Int.reduceLE, Int.reduceEq, reduceIte, reduceCtorEq, kill_next]
      try rfl
    all_goals simp only [↓vp, vq0, vq1, vq2, vq3, vr0, vr1, vr2, vr3, vr4, vr5, vr6, vr7, vr8, vr9, vr10, vr11, vr12, vr13, vr14, vr15, vr16, vr17, vr18, vr19, vr20, vr21, vr22, vr23, vr24, vr25, vr26, vr27, vr28, vr29, vr30, vr31, vr32, vr33, vr34, opS, fpS, okP, pack, nAl, allocA, shId, leaves, fillA, fillR, splice, Nat.reduceLT, Nat.reduceEqDiff, Nat.reduceLeDiff, Nat.reduceAdd, Nat.reduceSub, Nat.reduceMul, Int.reduceBEq, Int.reduceBNe, Int.reduceLT, Int.reduceLE, Int.reduceEq, reduceIte, reduceCtorEq, da, int, boolA, h7, h19, h20, hlt]
theorem s29 (l : List NamedM) (hl : okL l) (ht : tinyL l) (hlen : l.length ≤ 1000) (root : Int) (H : Heap) : callL ft (.fn (.func 29) [] []) [encL l, int root] H = some (.tup [encI (allM l root).1.items, boolA ((allM l root).2 == 0)], H) := by
  refine call_p (as' := [encL l, int root]) rfl rfl (by simp) ?_
  have q21 := fun K L Q => k21 hl ht hlen (root := root) (K := K) (L := L) (Q := Q)
  have hN : (allM l root).1.items.length ≤ 1000000 := by
    have hw := okW_all ht root
    have hle := hw.le
    have := hw.len
    omega
  unfold c29 r29
  generalize allM l root = A at *
  obtain ⟨w, e⟩ := A
  simp only [int] at q21 hN ⊢
  have w1 : oneAll (wholeC w) = true := rfl
  have w2 : (wholeC w).length = 3 := rfl
  have w3 : (wholeC w).take 1 = [encI w.items] := rfl
  simp only [↓vp, vq0, vq1, vq2, vq3, vr0, vr1, vr2, vr3, vr4, vr5, vr6, vr7, vr8, vr9, vr10, vr11, vr12, vr13, vr14, vr15, vr16, vr17, vr18, vr19, vr20, vr21, vr22, vr23, vr24, vr25, vr26, vr27, vr28, vr29, vr30, vr31, vr32, vr33, vr34, opS, fpS, okP, pack, nAl, allocA, shId, leaves, fillA, fillR, splice, Nat.reduceLT, Nat.reduceEqDiff, Nat.reduceLeDiff, Nat.reduceAdd, Nat.reduceSub, Nat.reduceMul, Int.reduceBEq, Int.reduceBNe, Int.reduceLT, Int.reduceLE, Int.reduceEq, reduceIte, reduceCtorEq, da, int, boolA, k17, q21, w1, w2, w3]
  rw [← hx_nil (hx _ _)]
  refine l29 w.items e hN (fun f' K S hr q8 q7 => ?_) w.items.length 0 (.sc (.slice none 0 0)) _ _ (by simp) (.inl ⟨rfl, by simp⟩) ?_ ?_ ?_ ?_ ?_
  · unfold c29R1
    obtain ⟨K', hK'⟩ := frz_rep (L := []) (by rw [hx_nil]; exact hr) 21
    simp only [↓vp, vq0, vq1, vq2, vq3, vr0, vr1, vr2, vr3, vr4, vr5, vr6, vr7, vr8, vr9, vr10, vr11, vr12, vr13, vr14, vr15, vr16, vr17, vr18, vr19, vr20, vr21, vr22, vr23, vr24, vr25, vr26, vr27, vr28, vr29, vr30, vr31, vr32, vr33, vr34, opS, fpS, okP, pack, nAl, allocA, shId, leaves, fillA, fillR, splice, Nat.reduceLT, Nat.reduceEqDiff, Nat.reduceLeDiff, Nat.reduceAdd, Nat.reduceSub, Nat.reduceMul, Int.reduceBEq, Int.reduceBNe, Int.reduceLT, Int.reduceLE, Int.reduceEq, reduceIte, reduceCtorEq, da, int, boolA, RetP_go, resT, resC, resN, retV1, retV2, retV3, retV0, frzFZ, takeM, Option.some.injEq, q8, q7, hK']
    rfl
  all_goals first | rfl | (simp only [↓vp, vq0, vq1, vq2, vq3, vr0, vr1, vr2, vr3, vr4, vr5, vr6, vr7, vr8, vr9, vr10, vr11, vr12, vr13, vr14, vr15, vr16, vr17, vr18, vr19, vr20, vr21, vr22, vr23, vr24, vr25, vr26, vr27, vr28, vr29, vr30, vr31, vr32, vr33, vr34, opS, fpS, okP, pack, nAl, allocA, shId, leaves, fillA, fillR, splice, Nat.reduceLT, Nat.reduceEqDiff, Nat.reduceLeDiff, Nat.reduceAdd, Nat.reduceSub, Nat.reduceMul, Int.reduceBEq, Int.reduceBNe, Int.reduceLT, Int.reduceLE, Int.reduceEq, reduceIte, reduceCtorEq, da, int, boolA]; done)
theorem k29 {l : List NamedM} (hl : okL l) (ht : tinyL l) (hlen : l.length ≤ 1000) {root : Int} {K : Heap} {L : List Blk} {Q : AV → Heap → Prop} :
    KW ft (.fn (.func 29) [] []) [encL l, int root] (hx K L) Q ↔ Q (.tup [encI (allM l root).1.items, boolA ((allM l root).2 == 0)]) (hx K L) := KW_of (s29 l hl ht hlen root _)
def doF (o : OpM) : List ItemM → Int → Int
  | [], _ => -1
  | x :: r, k => if o.kind ≠ 0 ∨ 0 ≤ cmpB x.key o.key then k else doF o r (k + 1)
def doR (all : List ItemM) (at_ : Int) (o : OpM) : Int :=
  if o.kind = 3 ∧ 0 ≤ at_ then (if at_ + 1 = all.length then -1 else at_ + 1)
  else if o.kind = 4 ∧ 0 ≤ at_ then at_ - 1
  else if o.kind = 2 ∨ o.kind = 4 then (all.length : Int) - 1
  else doF o all 0
end Go.VI
