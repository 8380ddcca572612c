import Derived.Test.YtkjeigdiojdfnaaM8
/- VI, part TH: Made, walked: leaves. -/
set_option linter.unusedVariables false
set_option linter.unusedSimpArgs false
set_option maxRecDepth 100000
namespace Go.VI
attribute [local congr] AW_congr OW_congr DW_congr NW_congr VW_congr GW_congr PW_congr KW_congr ite_congr' GV_congr CV_congr

/-- Nothing below a number has changed. -/
def Stay (B : Nat) (H H' : Heap) : Prop := H.next ≤ H'.next ∧ ∀ j, j < B → H'.get j = H.get j
theorem Stay.rfl' {B : Nat} {H : Heap} : Stay B H H := ⟨Nat.le_refl _, fun _ _ => rfl⟩
theorem Stay.trans {B : Nat} {H H' H'' : Heap} (h : Stay B H H') (h' : Stay B H' H'') : Stay B H H'' := ⟨Nat.le_trans h.1 h'.1, fun j hj => (h'.2 j hj).trans (h.2 j hj)⟩
theorem Stay.hx {B : Nat} {H : Heap} (L : List Blk) (h : B ≤ H.next) : Stay B H (hx H L) := ⟨by rw [hx_next]; omega, fun j hj => hx_get_old _ _ _ (by omega)⟩
theorem Stay.set {B : Nat} {H : Heap} {id : Nat} (b : Blk) (h : B ≤ id) : Stay B H (H.set id b) := ⟨by rw [Heap.next_set]; exact Nat.le_refl _, fun j hj => Heap.get_set_ne _ (by omega)⟩
/-- A slice that was made from a number on. -/
def RepB (B : Nat) (K : Heap) (sz : Nat) (S : AV) (rows : List (List AV)) : Prop := (S = .sc (.slice none 0 0) ∧ rows = []) ∨ ∃ id, B ≤ id ∧ S = .sl id 0 rows.length ∧ K.get id = some (.row false sz rows)
theorem RepB.rep {B : Nat} {K : Heap} {sz : Nat} {S : AV} {rows : List (List AV)} (h : RepB B K sz S rows) : Rep K sz S rows := by
  rcases h with h | ⟨id, _, h1, h2⟩
  · exact .inl h
  · exact .inr ⟨id, h1, h2⟩
theorem RepB.kill {B : Nat} {K : Heap} {sz : Nat} {S : AV} {rows : List (List AV)} (h : RepB B K sz S rows) : Stay B K (kill K S) := by
  rcases h with ⟨rfl, _⟩ | ⟨id, hb, rfl, _⟩
  · exact .rfl'
  · exact .set _ hb
theorem l26a (items : List ItemM) (hi : items.length ≤ 1000) (many at_ B : Nat) (hm : many ≤ 1000) (hat : at_ ≤ 2000) (hle : at_ ≤ items.length) (fan : Int) (K0 : Heap) (s8 s9 s10 : AV) {Q : AExit → Env → Heap → Prop}
   (hex : ∀ f' K S, RepB (B + 1) K 4 S (((items.drop at_).take many).map itemC) → K.get B = some (.box false [boolA true, S, .sc (.slice none 0 0)]) → Stay B K0 K → f' 0 = encI items → f' 1 = int many → f' 2 = int fan → f' 8 = s8 → f' 9 = s9 → f' 10 = s10 → f' 11 = int at_ → f' 12 = .ptr B 0 0 →
      Q (.exit 2) (mkE 131 f') (hx K [])) :
   ∀ (d k : Nat) (S : AV) (K : Heap) (f : Nat → AV), k + d = min items.length (at_ + many) → at_ ≤ k → RepB (B + 1) K 4 S (((items.drop at_).take (k - at_)).map itemC) → K.get B = some (.box false [boolA true, S, .sc (.slice none 0 0)]) → Stay B K0 K →
    f 0 = encI items → f 1 = int many → f 2 = int fan → f 8 = s8 → f 9 = s9 → f 10 = s10 → f 11 = int at_ → f 12 = .ptr B 0 0 → f 13 = int k →
    AW ft (.loop c26L0) (mkE 131 f) (hx K []) Q := by
  intro d
  have wm : IntKind.i64.wrap ((at_ : Int) + (many : Int)) = ((at_ + many : Nat) : Int) := by rw [wrap_i64 (by omega)]; rfl
  induction d with
  | zero =>
    intro k S K f hd hk hr g0 hS h0 h1 h2 h8 h9 h10 h11 h12 h13
    have hrow : (items.drop at_).take (k - at_) = (items.drop at_).take many := by
      rw [List.take_eq_take_iff, List.length_drop]
      omega
    rw [hrow] at hr
    rw [AW_loop]
    unfold c26L0
    by_cases c1 : (k : Int) < items.length
    · have c2 : ((k : Int) < ((at_ + many : Nat) : Int)) = False := eq_false (by omega)
      simp only [↓vp, vq0, vq1, vq2, vq3, vr0, vr1, vr2, vr3, vr4, vr5, vr6, vr7, vr8, vr9, vr10, vr11, vr12, vr13, vr14, vr15, vr16, vr17, vr18, vr19, vr20, vr21, vr22, vr23, vr24, vr25, vr26, vr27, vr28, vr29, vr30, vr31, vr32, vr33, vr34, opS, fpS, okP, pack, nAl, allocA, shId, leaves, fillA, fillR, splice, Nat.reduceLT, Nat.reduceEqDiff, Nat.reduceLeDiff, Nat.reduceAdd, Nat.reduceSub, Nat.reduceMul, Int.reduceBEq, Int.reduceBNe, Int.reduceLT, Int.reduceLE, Int.reduceEq, reduceIte, reduceCtorEq, da, int, boolA, h0, h1, h11, h13, c1, c2, wm]
      refine hex _ K S hr g0 hS ?_ ?_ ?_ ?_ ?_ ?_ ?_ ?_ <;> simp only [↓vp, vq0, vq1, vq2, vq3, vr0, vr1, vr2, vr3, vr4, vr5, vr6, vr7, vr8, vr9, vr10, vr11, vr12, vr13, vr14, vr15, vr16, vr17, vr18, vr19, vr20, vr21, vr22, vr23, vr24, vr25, vr26, vr27, vr28, vr29, vr30, vr31, vr32, vr33, vr34, opS, fpS, okP, pack, nAl, allocA, shId, leaves, fillA, fillR, splice, Nat.reduceLT, Nat.reduceEqDiff, Nat.reduceLeDiff, Nat.reduceAdd, Nat.reduceSub, Nat.reduceMul, Int.reduceBEq, Int.reduceBNe, Int.reduceLT, Int.reduceLE, Int.reduceEq, reduceIte, reduceCtorEq, da, int, boolA, h0, h1, h2, h8, h9, h10, h11, h12]
    · simp only [↓vp, vq0, vq1, vq2, vq3, vr0, vr1, vr2, vr3, vr4, vr5, vr6, vr7, vr8, vr9, vr10, vr11, vr12, vr13, vr14, vr15, vr16, vr17, vr18, vr19, vr20, vr21, vr22, vr23, vr24, vr25, vr26, vr27, vr28, vr29, vr30, vr31, vr32, vr33, vr34, opS, fpS, okP, pack, nAl, allocA, shId, leaves, fillA, fillR, splice, Nat.reduceLT, Nat.reduceEqDiff, Nat.reduceLeDiff, Nat.reduceAdd, Nat.reduceSub, Nat.reduceMul, Int.reduceBEq, Int.reduceBNe, Int.reduceLT, Int.reduceLE, Int.reduceEq, reduceIte, reduceCtorEq, da, int, boolA, h0, h1, h11, h13, c1]
      refine hex _ K S hr g0 hS ?_ ?_ ?_ ?_ ?_ ?_ ?_ ?_ <;> simp only [↓vp, vq0, vq1, vq2, vq3, vr0, vr1, vr2, vr3, vr4, vr5, vr6, vr7, vr8, vr9, vr10, vr11, vr12, vr13, vr14, vr15, vr16, vr17, vr18, vr19, vr20, vr21, vr22, vr23, vr24, vr25, vr26, vr27, vr28, vr29, vr30, vr31, vr32, vr33, vr34, opS, fpS, okP, pack, nAl, allocA, shId, leaves, fillA, fillR, splice, Nat.reduceLT, Nat.reduceEqDiff, Nat.reduceLeDiff, Nat.reduceAdd, Nat.reduceSub, Nat.reduceMul, Int.reduceBEq, Int.reduceBNe, Int.reduceLT, Int.reduceLE, Int.reduceEq, reduceIte, reduceCtorEq, da, int, boolA, h0, h1, h2, h8, h9, h10, h11, h12]
  | succ d ih =>
    intro k S K f hd hk hr g0 hS h0 h1 h2 h8 h9 h10 h11 h12 h13
    have gk : k < items.length := by omega
    have c1 : ((k : Int) < items.length) = True := eq_true (by omega)
    have c2 : ((k : Int) < ((at_ + many : Nat) : Int)) = True := eq_true (by omega)
    have w1 := wrap_succ (show k < 9223372036854775807 by omega)
    have lB := Heap.get_lt g0
    have o0 := get_old g0
    have hrw : (items.drop at_).take (k + 1 - at_) = (items.drop at_).take (k - at_) ++ [items[k]] := by
      rw [show k + 1 - at_ = (k - at_) + 1 by omega, List.take_succ_eq_append_getElem (by simp; omega)]
      simp [show at_ + (k - at_) = k by omega]
    have hlr : ((items.drop at_).take (k - at_)).length = k - at_ := by simp; omega
    have ap := fun nid L => appA_rep (nid := nid) (bytes := 64) hr.rep (xs := [itemC items[k]]) (by simp) rfl (by simp; omega) L
    have kB := kill_old hr.rep g0 (fun r h => by cases h)
    have kn := kill_next K S
    have kg := kill_get hr.rep g0 (fun r h => by cases h)
    have sB := fun (L : List Blk) (b : Blk) => hx_set_old (kill K S) L b B (by rw [kn]; exact lB)
    have nw : (B = K.next) = False := eq_false (by omega)
    rw [AW_loop]
    unfold c26L0
    simp only [↓vp, vq0, vq1, vq2, vq3, vr0, vr1, vr2, vr3, vr4, vr5, vr6, vr7, vr8, vr9, vr10, vr11, vr12, vr13, vr14, vr15, vr16, vr17, vr18, vr19, vr20, vr21, vr22, vr23, vr24, vr25, vr26, vr27, vr28, vr29, vr30, vr31, vr32, vr33, vr34, opS, fpS, okP, pack, nAl, allocA, shId, leaves, fillA, fillR, splice, Nat.reduceLT, Nat.reduceEqDiff, Nat.reduceLeDiff, Nat.reduceAdd, Nat.reduceSub, Nat.reduceMul, Int.reduceBEq, Int.reduceBNe, Int.reduceLT, Int.reduceLE, Int.reduceEq, reduceIte, reduceCtorEq, da, int, boolA, h0, h1, h11, h12, h13, c1, c2, wm, atI gk, cI gk, o0, clIt, ap, kB, kn, sB, nw, w1]
    have hn2 : ((kill K S).set B (.box false [boolA true, .sl (K.next + 1) 0 ((items.drop at_).take (k - at_) ++ [items[k]]).length, .sc (.slice none 0 0)])).next = K.next := by rw [Heap.next_set, kn]
    rw [← hx_nil (hx _ _)]
    refine ih (k + 1) (.sl (K.next + 1) 0 (((items.drop at_).take (k - at_)).length + 1)) _ _ (by omega) (by omega) (.inr ⟨K.next + 1, by omega, ?_, ?_⟩) ?_ ?_ ?_ ?_ ?_ ?_ ?_ ?_ ?_ ?_ ?_
    · rw [hrw]; simp
    · rw [hrw]
      simp only [↓vp, vq0, vq1, vq2, vq3, vr0, vr1, vr2, vr3, vr4, vr5, vr6, vr7, vr8, vr9, vr10, vr11, vr12, vr13, vr14, vr15, vr16, vr17, vr18, vr19, vr20, vr21, vr22, vr23, vr24, vr25, vr26, vr27, vr28, vr29, vr30, vr31, vr32, vr33, vr34, opS, fpS, okP, pack, nAl, allocA, shId, leaves, fillA, fillR, splice, Nat.reduceLT, Nat.reduceEqDiff, Nat.reduceLeDiff, Nat.reduceAdd, Nat.reduceSub, Nat.reduceMul, Int.reduceBEq, Int.reduceBNe, Int.reduceLT, Int.reduceLE, Int.reduceEq, reduceIte, reduceCtorEq, kn]
      simp
    · refine get_old ?_ _
      rw [Heap.get_set_self _ (by rw [kn]; exact lB)]
      rfl
    · refine hS.trans ((Stay.trans (?_ : Stay B K (kill K S)) (.set _ (Nat.le_refl _))).trans (.hx _ (by rw [Heap.next_set, kn]; omega)))
      exact ⟨hr.kill.1, fun j hj => hr.kill.2 j (by omega)⟩
    all_goals simp only [↓vp, vq0, vq1, vq2, vq3, vr0, vr1, vr2, vr3, vr4, vr5, vr6, vr7, vr8, vr9, vr10, vr11, vr12, vr13, vr14, vr15, vr16, vr17, vr18, vr19, vr20, vr21, vr22, vr23, vr24, vr25, vr26, vr27, vr28, vr29, vr30, vr31, vr32, vr33, vr34, opS, fpS, okP, pack, nAl, allocA, shId, leaves, fillA, fillR, splice, Nat.reduceLT, Nat.reduceEqDiff, Nat.reduceLeDiff, Nat.reduceAdd, Nat.reduceSub, Nat.reduceMul, Int.reduceBEq, Int.reduceBNe, Int.reduceLT, Int.reduceLE, Int.reduceEq, reduceIte, reduceCtorEq, da, int, boolA, h0, h1, h2, h8, h9, h10, h11, h12]

/-! ### leaves -/
def leafN (c : List ItemM) (next : Int) : NamedM := ⟨next, ⟨true, c, []⟩⟩
def leafK (c : List ItemM) (next : Int) : KidM := ⟨(c[0]?.map (·.key)).getD [], next⟩
/-- Leaves of so many items, and their places. -/
def leavesM (items : List ItemM) (many : Nat) : Nat → Nat → Nat → List NamedM × List KidM
  | 0, _, _ => ([], [])
  | d + 1, at_, next => if at_ < items.length ∨ at_ = 0 then
      (leafN ((items.drop at_).take many) next :: (leavesM items many d (at_ + many) (next + 1)).1, leafK ((items.drop at_).take many) next :: (leavesM items many d (at_ + many) (next + 1)).2)
    else ([], [])
theorem rowSz_of {H : Heap} {id : Nat} {fz : Bool} {sz : Nat} {rs : List (List AV)} (h : H.get id = some (.row fz sz rs)) : rowSz H id = some sz := by unfold rowSz; rw [h]
theorem RepB.mono {B : Nat} {K K' : Heap} {sz : Nat} {S : AV} {rows : List (List AV)} (h : RepB B K sz S rows) (hk : ∀ id, B ≤ id → K.get id = some (.row false sz rows) → K'.get id = some (.row false sz rows)) : RepB B K' sz S rows := by
  rcases h with h | ⟨id, hb, h1, h2⟩
  · exact .inl h
  · exact .inr ⟨id, hb, h1, hk id hb h2⟩
theorem l26b (items : List ItemM) (hi : items.length ≤ 60) (many : Nat) (hm : 1 ≤ many ∧ many ≤ 20) (fan : Int) (R : List NamedM × List KidM) {Q : AExit → Env → Heap → Prop}
   (hex : ∀ f' K S8 S9, Rep K 4 S8 (R.1.map namedC) → Rep K 2 S9 (R.2.map kidC) → f' 2 = int fan → f' 8 = S8 → f' 9 = S9 → f' 10 = int (2 + R.1.length : Nat) → Q (.exit 0) (mkE 131 f') (hx K [])) :
   ∀ (d at_ : Nat) (acc : List NamedM) (kacc : List KidM) (S8 S9 : AV) (K : Heap) (f : Nat → AV), items.length + 1 ≤ at_ + d → at_ ≤ 100 → acc.length = kacc.length → acc.length ≤ 100 → acc.length + d ≤ 100 →
    R = (acc ++ (leavesM items many d at_ (2 + acc.length)).1, kacc ++ (leavesM items many d at_ (2 + acc.length)).2) → Rep K 4 S8 (acc.map namedC) → Rep K 2 S9 (kacc.map kidC) →
    f 0 = encI items → f 1 = int many → f 2 = int fan → f 8 = S8 → f 9 = S9 → f 10 = int (2 + acc.length : Nat) → f 11 = int at_ →
    AW ft (.loop c26L3) (mkE 131 f) (hx K []) Q := by
  intro d
  induction d with
  | zero =>
    intro at_ acc kacc S8 S9 K f hd ha hl hl2 hl3 hR h8 h9 q0 q1 q2 q8 q9 q10 q11
    have c1 : ((at_ : Int) < items.length) = False := eq_false (by omega)
    have c2 : ((at_ : Int) == 0) = false := by simp; omega
    rw [AW_loop]
    unfold c26L3
    simp only [leavesM, List.append_nil] at hR
    simp only [↓vp, vq0, vq1, vq2, vq3, vr0, vr1, vr2, vr3, vr4, vr5, vr6, vr7, vr8, vr9, vr10, vr11, vr12, vr13, vr14, vr15, vr16, vr17, vr18, vr19, vr20, vr21, vr22, vr23, vr24, vr25, vr26, vr27, vr28, vr29, vr30, vr31, vr32, vr33, vr34, opS, fpS, okP, pack, nAl, allocA, shId, leaves, fillA, fillR, splice, Nat.reduceLT, Nat.reduceEqDiff, Nat.reduceLeDiff, Nat.reduceAdd, Nat.reduceSub, Nat.reduceMul, Int.reduceBEq, Int.reduceBNe, Int.reduceLT, Int.reduceLE, Int.reduceEq, reduceIte, reduceCtorEq, da, int, boolA, q0, q11, c1, c2]
    refine hex _ K S8 S9 (by rw [hR]; exact h8) (by rw [hR]; exact h9) ?_ ?_ ?_ ?_ <;> simp only [↓vp, vq0, vq1, vq2, vq3, vr0, vr1, vr2, vr3, vr4, vr5, vr6, vr7, vr8, vr9, vr10, vr11, vr12, vr13, vr14, vr15, vr16, vr17, vr18, vr19, vr20, vr21, vr22, vr23, vr24, vr25, vr26, vr27, vr28, vr29, vr30, vr31, vr32, vr33, vr34, opS, fpS, okP, pack, nAl, allocA, shId, leaves, fillA, fillR, splice, Nat.reduceLT, Nat.reduceEqDiff, Nat.reduceLeDiff, Nat.reduceAdd, Nat.reduceSub, Nat.reduceMul, Int.reduceBEq, Int.reduceBNe, Int.reduceLT, Int.reduceLE, Int.reduceEq, reduceIte, reduceCtorEq, da, int, boolA, q2, q8, q9, q10, hR]
  | succ d ih =>
    intro at_ acc kacc S8 S9 K f hd ha hl hl2 hl3 hR h8 h9 q0 q1 q2 q8 q9 q10 q11
    by_cases hc : at_ < items.length ∨ at_ = 0
    · rw [leavesM, if_pos hc] at hR
      have hle : at_ ≤ items.length := by omega
      have w1 : IntKind.i64.wrap ((at_ : Int) + (many : Int)) = ((at_ + many : Nat) : Int) := by rw [wrap_i64 (by omega)]; rfl
      have w2 : IntKind.i64.wrap (((2 + acc.length : Nat) : Int) + 1) = ((2 + (acc.length + 1) : Nat) : Int) := by rw [wrap_i64 (by omega)]; omega
      have body : ∀ (f : Nat → AV), f 0 = encI items → f 1 = int many → f 2 = int fan → f 8 = S8 → f 9 = S9 → f 10 = int (2 + acc.length : Nat) → f 11 = int at_ → f 12 = .ptr K.next 0 0 → f 13 = int at_ →
          AW ft (.loop c26L0) (mkE 131 f) (hx (hx K [.box false [boolA true, .sc (.slice none 0 0), .sc (.slice none 0 0)]]) []) (blockA 2 (thenA (fun e H => AW ft c26R1 e H (blockA 1 (thenA (fun e H => AW ft c26R2 e H (thenA (fun e H => AW ft (.loop c26L3) e H Q) Q)) (thenA (fun e H => AW ft (.loop c26L3) e H Q) Q)))) (blockA 1 (thenA (fun e H => AW ft c26R2 e H (thenA (fun e H => AW ft (.loop c26L3) e H Q) Q)) (thenA (fun e H => AW ft (.loop c26L3) e H Q) Q))))) := by
        intro f q0 q1 q2 q8 q9 q10 q11 q12 q13
        have B0 : (hx K [.box false [boolA true, .sc (.slice none 0 0), .sc (.slice none 0 0)]]).get K.next = some (.box false [boolA true, .sc (.slice none 0 0), .sc (.slice none 0 0)]) := hx_get0 _ _
        have hmin : min items.length (at_ + many) = at_ + (min items.length (at_ + many) - at_) := by omega
        refine l26a items (by omega) many at_ K.next (by omega) (by omega) hle fan (hx K [.box false [boolA true, .sc (.slice none 0 0), .sc (.slice none 0 0)]]) S8 S9 (int (2 + acc.length : Nat)) (fun f' K1 S hS gB hst p0 p1 p2 p8 p9 p10 p11 p12 => ?_)
          (min items.length (at_ + many) - at_) at_ (.sc (.slice none 0 0)) _ f (by omega) (Nat.le_refl _) (.inl ⟨rfl, by simp⟩) B0 .rfl' q0 q1 q2 q8 q9 q10 q11 q12 q13
        have hc100 : ((items.drop at_).take many).length ≤ 100 := by simp; omega
        have r8 : Rep K1 4 S8 (acc.map namedC) := h8.mono fun id h => by rw [hst.2 id (Heap.get_lt h)]; exact get_old h _
        have r9 : Rep K1 2 S9 (kacc.map kidC) := h9.mono fun id h => by rw [hst.2 id (Heap.get_lt h)]; exact get_old h _
        have l8 : ∀ id len, S8 = .sl id 0 len → id < K.next := fun id len e => by
          rcases h8 with ⟨h, _⟩ | ⟨id', h, h'⟩
          · rw [h] at e; cases e
          · rw [h] at e
            cases e
            exact Heap.get_lt h'
        generalize (items.drop at_).take many = c at *
        have lB := Heap.get_lt gB
        have oB := get_old gB
        have step : ∀ (f : Nat → AV) (K2 : Heap) (L : List Blk) (i j : Nat), (hx K2 L).get i = some (.row false 4 ((acc ++ [leafN c (2 + acc.length : Nat)]).map namedC)) → (hx K2 L).get j = some (.row false 2 ((kacc ++ [leafK c (2 + acc.length : Nat)]).map kidC)) →
            f 0 = encI items → f 1 = int many → f 2 = int fan → f 8 = .sl i 0 (acc.length + 1) → f 9 = .sl j 0 (kacc.length + 1) → f 10 = int (2 + (acc.length + 1) : Nat) → f 11 = int (at_ + many : Nat) →
            AW ft (.loop c26L3) (mkE 131 f) (hx K2 L) Q := fun f K2 L i j gi gj z0 z1 z2 z8 z9 z10 z11 => by
          rw [← hx_nil (hx K2 L)]
          refine ih (at_ + many) (acc ++ [leafN c (2 + acc.length : Nat)]) (kacc ++ [leafK c (2 + acc.length : Nat)]) _ _ (hx K2 L) f ?_ (by omega) (by simp; omega) (by simp; omega) (by simp; omega) ?_ (.inr ⟨i, ?_, gi⟩) (.inr ⟨j, ?_, gj⟩) z0 z1 z2 z8 z9 ?_ z11
          · omega
          · rw [hR]
            simp [List.append_assoc, Nat.add_assoc]
          · simp
          · simp
          · simpa using z10
        have hb8 : (acc.length + 1) * 64 ≤ 140737488355328 := by omega
        have hb9 : (kacc.length + 1) * 32 ≤ 140737488355328 := by omega
        unfold c26R1 c26R2
        rcases hS with ⟨rfl, hcn⟩ | ⟨id, hid, rfl, gid⟩
        · have hc0 : c = [] := by simpa using hcn
          subst hc0
          have ap8 := fun nid L => appA_rep (nid := nid) (bytes := 64) r8 (xs := [namedC (leafN [] (2 + acc.length : Nat))]) (by simp) rfl (by simpa using hb8) L
          have k8 := kill_next K1 S8
          have r9' : Rep (kill K1 S8) 2 S9 (kacc.map kidC) := r9.mono fun j h => kill_get r8 h fun r e => by cases e
          have ap9 := fun nid L => appA_rep (nid := nid) (bytes := 32) r9' (xs := [kidC (leafK [] (2 + acc.length : Nat))]) (by simp) rfl (by simpa using hb9) L
          have k9 : (kill (kill K1 S8) S9).next = K1.next := by rw [kill_next, kill_next]
          simp only [leafN, leafK, namedC, nodeC, kidC, encI, encK, List.map_nil, List.getElem?_nil, Option.map_none, Option.getD_none, encB, int, boolA] at ap8 ap9
          simp only [↓vp, vq0, vq1, vq2, vq3, vr0, vr1, vr2, vr3, vr4, vr5, vr6, vr7, vr8, vr9, vr10, vr11, vr12, vr13, vr14, vr15, vr16, vr17, vr18, vr19, vr20, vr21, vr22, vr23, vr24, vr25, vr26, vr27, vr28, vr29, vr30, vr31, vr32, vr33, vr34, opS, fpS, okP, pack, nAl, allocA, shId, leaves, fillA, fillR, splice, Nat.reduceLT, Nat.reduceEqDiff, Nat.reduceLeDiff, Nat.reduceAdd, Nat.reduceSub, Nat.reduceMul, Int.reduceBEq, Int.reduceBNe, Int.reduceLT, Int.reduceLE, Int.reduceEq, reduceIte, reduceCtorEq, da, int, boolA, p0, p1, p2, p8, p9, p10, p11, p12, oB, ap8, k8, ap9, k9, w1, w2]
          refine step _ _ _ (K1.next + 2) (K1.next + 4) ?_ ?_ ?_ ?_ ?_ ?_ ?_ ?_ ?_
          · simp only [↓vp, vq0, vq1, vq2, vq3, vr0, vr1, vr2, vr3, vr4, vr5, vr6, vr7, vr8, vr9, vr10, vr11, vr12, vr13, vr14, vr15, vr16, vr17, vr18, vr19, vr20, vr21, vr22, vr23, vr24, vr25, vr26, vr27, vr28, vr29, vr30, vr31, vr32, vr33, vr34, opS, fpS, okP, pack, nAl, allocA, shId, leaves, fillA, fillR, splice, Nat.reduceLT, Nat.reduceEqDiff, Nat.reduceLeDiff, Nat.reduceAdd, Nat.reduceSub, Nat.reduceMul, Int.reduceBEq, Int.reduceBNe, Int.reduceLT, Int.reduceLE, Int.reduceEq, reduceIte, reduceCtorEq, k9, List.map_append]
            rfl
          · simp only [↓vp, vq0, vq1, vq2, vq3, vr0, vr1, vr2, vr3, vr4, vr5, vr6, vr7, vr8, vr9, vr10, vr11, vr12, vr13, vr14, vr15, vr16, vr17, vr18, vr19, vr20, vr21, vr22, vr23, vr24, vr25, vr26, vr27, vr28, vr29, vr30, vr31, vr32, vr33, vr34, opS, fpS, okP, pack, nAl, allocA, shId, leaves, fillA, fillR, splice, Nat.reduceLT, Nat.reduceEqDiff, Nat.reduceLeDiff, Nat.reduceAdd, Nat.reduceSub, Nat.reduceMul, Int.reduceBEq, Int.reduceBNe, Int.reduceLT, Int.reduceLE, Int.reduceEq, reduceIte, reduceCtorEq, k9, List.map_append]
            rfl
          all_goals simp only [↓vp, vq0, vq1, vq2, vq3, vr0, vr1, vr2, vr3, vr4, vr5, vr6, vr7, vr8, vr9, vr10, vr11, vr12, vr13, vr14, vr15, vr16, vr17, vr18, vr19, vr20, vr21, vr22, vr23, vr24, vr25, vr26, vr27, vr28, vr29, vr30, vr31, vr32, vr33, vr34, opS, fpS, okP, pack, nAl, allocA, shId, leaves, fillA, fillR, splice, Nat.reduceLT, Nat.reduceEqDiff, Nat.reduceLeDiff, Nat.reduceAdd, Nat.reduceSub, Nat.reduceMul, Int.reduceBEq, Int.reduceBNe, Int.reduceLT, Int.reduceLE, Int.reduceEq, reduceIte, reduceCtorEq, da, int, boolA, p0, p1, p2]
        · have gid' := get_old gid
          have lid := Heap.get_lt gid
          obtain ⟨K2, hK2⟩ : ∃ K2, K2 = K1.set id (.row true 4 (c.map itemC)) := ⟨_, rfl⟩
          have n2 : K2.next = K1.next := by rw [hK2, Heap.next_set]
          have sid : ∀ L, (hx K1 L).set id (.row true 4 (c.map itemC)) = hx K2 L := fun L => by rw [hK2, hx_set_old _ _ _ _ lid]
          have ne8 : ∀ j len, S8 = .sl j 0 len → j ≠ id := fun j len e h => by have := l8 j len e; omega
          have r8 : Rep K2 4 S8 (acc.map namedC) := by
            rcases r8 with h | ⟨j, h, h'⟩
            · exact .inl h
            · exact .inr ⟨j, h, by rw [hK2, Heap.get_set_ne _ (ne8 j _ h), h']⟩
          have r9 : Rep K2 2 S9 (kacc.map kidC) := r9.mono fun j h => by rw [hK2, Heap.get_set_ne _ (fun e => by rw [e, gid] at h; cases h), h]
          have gB2 : K2.get K.next = some (.box false [boolA true, .sl id 0 (c.map itemC).length, .sc (.slice none 0 0)]) := by rw [hK2, Heap.get_set_ne _ (by omega), gB]
          have oB2 := get_old gB2
          have ap8 := fun nid L => appA_rep (nid := nid) (bytes := 64) r8 (xs := [namedC (leafN c (2 + acc.length : Nat))]) (by simp) rfl (by simpa using hb8) L
          have k8 := kill_next K2 S8
          have r9' : Rep (kill K2 S8) 2 S9 (kacc.map kidC) := r9.mono fun j h => kill_get r8 h fun r e => by cases e
          have ap9 := fun nid L => appA_rep (nid := nid) (bytes := 32) r9' (xs := [kidC (leafK c (2 + acc.length : Nat))]) (by simp) rfl (by simpa using hb9) L
          have k9 : (kill (kill K2 S8) S9).next = K1.next := by rw [kill_next, kill_next, n2]
          have tk : (c.map itemC).take c.length = c.map itemC := List.take_of_length_le (by simp)
          simp only [leafN, leafK, namedC, nodeC, kidC, encI, encK, List.map_nil, int, boolA] at ap8 ap9
          simp only [int, boolA, List.length_map] at oB
          clear hK2
          cases c with
          | nil =>
            simp only [List.getElem?_nil, Option.map_none, Option.getD_none, encB, List.map_nil] at ap8 ap9 gid' sid tk
            simp only [↓vp, vq0, vq1, vq2, vq3, vr0, vr1, vr2, vr3, vr4, vr5, vr6, vr7, vr8, vr9, vr10, vr11, vr12, vr13, vr14, vr15, vr16, vr17, vr18, vr19, vr20, vr21, vr22, vr23, vr24, vr25, vr26, vr27, vr28, vr29, vr30, vr31, vr32, vr33, vr34, opS, fpS, okP, pack, nAl, allocA, shId, leaves, fillA, fillR, splice, Nat.reduceLT, Nat.reduceEqDiff, Nat.reduceLeDiff, Nat.reduceAdd, Nat.reduceSub, Nat.reduceMul, Int.reduceBEq, Int.reduceBNe, Int.reduceLT, Int.reduceLE, Int.reduceEq, reduceIte, reduceCtorEq, da, int, boolA, p0, p1, p2, p8, p9, p10, p11, p12, oB, gid', sid, n2, ap8, k8, ap9, k9, w1, w2, ias, rsz]
            refine step _ _ _ (K1.next + 2) (K1.next + 4) ?_ ?_ ?_ ?_ ?_ ?_ ?_ ?_ ?_
            · simp only [↓vp, vq0, vq1, vq2, vq3, vr0, vr1, vr2, vr3, vr4, vr5, vr6, vr7, vr8, vr9, vr10, vr11, vr12, vr13, vr14, vr15, vr16, vr17, vr18, vr19, vr20, vr21, vr22, vr23, vr24, vr25, vr26, vr27, vr28, vr29, vr30, vr31, vr32, vr33, vr34, opS, fpS, okP, pack, nAl, allocA, shId, leaves, fillA, fillR, splice, Nat.reduceLT, Nat.reduceEqDiff, Nat.reduceLeDiff, Nat.reduceAdd, Nat.reduceSub, Nat.reduceMul, Int.reduceBEq, Int.reduceBNe, Int.reduceLT, Int.reduceLE, Int.reduceEq, reduceIte, reduceCtorEq, k9, List.map_append]
              rfl
            · simp only [↓vp, vq0, vq1, vq2, vq3, vr0, vr1, vr2, vr3, vr4, vr5, vr6, vr7, vr8, vr9, vr10, vr11, vr12, vr13, vr14, vr15, vr16, vr17, vr18, vr19, vr20, vr21, vr22, vr23, vr24, vr25, vr26, vr27, vr28, vr29, vr30, vr31, vr32, vr33, vr34, opS, fpS, okP, pack, nAl, allocA, shId, leaves, fillA, fillR, splice, Nat.reduceLT, Nat.reduceEqDiff, Nat.reduceLeDiff, Nat.reduceAdd, Nat.reduceSub, Nat.reduceMul, Int.reduceBEq, Int.reduceBNe, Int.reduceLT, Int.reduceLE, Int.reduceEq, reduceIte, reduceCtorEq, k9, List.map_append]
              rfl
            all_goals simp only [↓vp, vq0, vq1, vq2, vq3, vr0, vr1, vr2, vr3, vr4, vr5, vr6, vr7, vr8, vr9, vr10, vr11, vr12, vr13, vr14, vr15, vr16, vr17, vr18, vr19, vr20, vr21, vr22, vr23, vr24, vr25, vr26, vr27, vr28, vr29, vr30, vr31, vr32, vr33, vr34, opS, fpS, okP, pack, nAl, allocA, shId, leaves, fillA, fillR, splice, Nat.reduceLT, Nat.reduceEqDiff, Nat.reduceLeDiff, Nat.reduceAdd, Nat.reduceSub, Nat.reduceMul, Int.reduceBEq, Int.reduceBNe, Int.reduceLT, Int.reduceLE, Int.reduceEq, reduceIte, reduceCtorEq, da, int, boolA, p0, p1, p2]
          | cons x c =>
            have cp : ((0 : Int) < ((c.length + 1 : Nat) : Int)) = True := eq_true (by omega)
            have cp2 : 0 < c.length + 1 := by omega
            simp only [List.getElem?_cons_zero, Option.map_some, Option.getD_some, List.length_cons, List.map_cons] at ap8 ap9 gid' sid tk oB
            simp only [↓vp, vq0, vq1, vq2, vq3, vr0, vr1, vr2, vr3, vr4, vr5, vr6, vr7, vr8, vr9, vr10, vr11, vr12, vr13, vr14, vr15, vr16, vr17, vr18, vr19, vr20, vr21, vr22, vr23, vr24, vr25, vr26, vr27, vr28, vr29, vr30, vr31, vr32, vr33, vr34, opS, fpS, okP, pack, nAl, allocA, shId, leaves, fillA, fillR, splice, Nat.reduceLT, Nat.reduceEqDiff, Nat.reduceLeDiff, Nat.reduceAdd, Nat.reduceSub, Nat.reduceMul, Int.reduceBEq, Int.reduceBNe, Int.reduceLT, Int.reduceLE, Int.reduceEq, reduceIte, reduceCtorEq, da, int, boolA, p0, p1, p2, p8, p9, p10, p11, p12, oB, gid', sid, n2, ap8, k8, ap9, k9, w1, w2, ias, rsz, cp, Int.toNat_zero, tk]
            refine step _ _ _ (K1.next + 2) (K1.next + 4) ?_ ?_ ?_ ?_ ?_ ?_ ?_ ?_ ?_
            · simp only [↓vp, vq0, vq1, vq2, vq3, vr0, vr1, vr2, vr3, vr4, vr5, vr6, vr7, vr8, vr9, vr10, vr11, vr12, vr13, vr14, vr15, vr16, vr17, vr18, vr19, vr20, vr21, vr22, vr23, vr24, vr25, vr26, vr27, vr28, vr29, vr30, vr31, vr32, vr33, vr34, opS, fpS, okP, pack, nAl, allocA, shId, leaves, fillA, fillR, splice, Nat.reduceLT, Nat.reduceEqDiff, Nat.reduceLeDiff, Nat.reduceAdd, Nat.reduceSub, Nat.reduceMul, Int.reduceBEq, Int.reduceBNe, Int.reduceLT, Int.reduceLE, Int.reduceEq, reduceIte, reduceCtorEq, k9, List.map_append]
              rfl
            · simp only [↓vp, vq0, vq1, vq2, vq3, vr0, vr1, vr2, vr3, vr4, vr5, vr6, vr7, vr8, vr9, vr10, vr11, vr12, vr13, vr14, vr15, vr16, vr17, vr18, vr19, vr20, vr21, vr22, vr23, vr24, vr25, vr26, vr27, vr28, vr29, vr30, vr31, vr32, vr33, vr34, opS, fpS, okP, pack, nAl, allocA, shId, leaves, fillA, fillR, splice, Nat.reduceLT, Nat.reduceEqDiff, Nat.reduceLeDiff, Nat.reduceAdd, Nat.reduceSub, Nat.reduceMul, Int.reduceBEq, Int.reduceBNe, Int.reduceLT, Int.reduceLE, Int.reduceEq, reduceIte, reduceCtorEq, k9, List.map_append]
              rfl
            all_goals simp only [↓vp, vq0, vq1, vq2, vq3, vr0, vr1, vr2, vr3, vr4, vr5, vr6, vr7, vr8, vr9, vr10, vr11, vr12, vr13, vr14, vr15, vr16, vr17, vr18, vr19, vr20, vr21, vr22, vr23, vr24, vr25, vr26, vr27, vr28, vr29, vr30, vr31, vr32, vr33, vr34, opS, fpS, okP, pack, nAl, allocA, shId, leaves, fillA, fillR, splice, Nat.reduceLT, Nat.reduceEqDiff, Nat.reduceLeDiff, Nat.reduceAdd, Nat.reduceSub, Nat.reduceMul, Int.reduceBEq, Int.reduceBNe, Int.reduceLT, Int.reduceLE, Int.reduceEq, reduceIte, reduceCtorEq, da, int, boolA, p0, p1, p2]
      rw [AW_loop]
      unfold c26L3
      by_cases c1 : (at_ : Int) < items.length
      · simp only [↓vp, vq0, vq1, vq2, vq3, vr0, vr1, vr2, vr3, vr4, vr5, vr6, vr7, vr8, vr9, vr10, vr11, vr12, vr13, vr14, vr15, vr16, vr17, vr18, vr19, vr20, vr21, vr22, vr23, vr24, vr25, vr26, vr27, vr28, vr29, vr30, vr31, vr32, vr33, vr34, opS, fpS, okP, pack, nAl, allocA, shId, leaves, fillA, fillR, splice, Nat.reduceLT, Nat.reduceEqDiff, Nat.reduceLeDiff, Nat.reduceAdd, Nat.reduceSub, Nat.reduceMul, Int.reduceBEq, Int.reduceBNe, Int.reduceLT, Int.reduceLE, Int.reduceEq, reduceIte, reduceCtorEq, da, int, boolA, q0, q11, c1]
        rw [← hx_nil (hx K _)]
        refine body _ ?_ ?_ ?_ ?_ ?_ ?_ ?_ ?_ ?_ <;> simp only [↓vp, vq0, vq1, vq2, vq3, vr0, vr1, vr2, vr3, vr4, vr5, vr6, vr7, vr8, vr9, vr10, vr11, vr12, vr13, vr14, vr15, vr16, vr17, vr18, vr19, vr20, vr21, vr22, vr23, vr24, vr25, vr26, vr27, vr28, vr29, vr30, vr31, vr32, vr33, vr34, opS, fpS, okP, pack, nAl, allocA, shId, leaves, fillA, fillR, splice, Nat.reduceLT, Nat.reduceEqDiff, Nat.reduceLeDiff, Nat.reduceAdd, Nat.reduceSub, Nat.reduceMul, Int.reduceBEq, Int.reduceBNe, Int.reduceLT, Int.reduceLE, Int.reduceEq, reduceIte, reduceCtorEq, da, int, boolA, q0, q1, q2, q8, q9, q10, q11]
      · have c2 : ((at_ : Int) == 0) = true := by simp; omega
        simp only [↓vp, vq0, vq1, vq2, vq3, vr0, vr1, vr2, vr3, vr4, vr5, vr6, vr7, vr8, vr9, vr10, vr11, vr12, vr13, vr14, vr15, vr16, vr17, vr18, vr19, vr20, vr21, vr22, vr23, vr24, vr25, vr26, vr27, vr28, vr29, vr30, vr31, vr32, vr33, vr34, opS, fpS, okP, pack, nAl, allocA, shId, leaves, fillA, fillR, splice, Nat.reduceLT, Nat.reduceEqDiff, Nat.reduceLeDiff, Nat.reduceAdd, Nat.reduceSub, Nat.reduceMul, Int.reduceBEq, Int.reduceBNe, Int.reduceLT, Int.reduceLE, Int.reduceEq, reduceIte, reduceCtorEq, da, int, boolA, q0, q11, c1, c2]
        rw [← hx_nil (hx K _)]
        refine body _ ?_ ?_ ?_ ?_ ?_ ?_ ?_ ?_ ?_ <;> simp only [↓vp, vq0, vq1, vq2, vq3, vr0, vr1, vr2, vr3, vr4, vr5, vr6, vr7, vr8, vr9, vr10, vr11, vr12, vr13, vr14, vr15, vr16, vr17, vr18, vr19, vr20, vr21, vr22, vr23, vr24, vr25, vr26, vr27, vr28, vr29, vr30, vr31, vr32, vr33, vr34, opS, fpS, okP, pack, nAl, allocA, shId, leaves, fillA, fillR, splice, Nat.reduceLT, Nat.reduceEqDiff, Nat.reduceLeDiff, Nat.reduceAdd, Nat.reduceSub, Nat.reduceMul, Int.reduceBEq, Int.reduceBNe, Int.reduceLT, Int.reduceLE, Int.reduceEq, reduceIte, reduceCtorEq, da, int, boolA, q0, q1, q2, q8, q9, q10, q11]
    · have c1 : ((at_ : Int) < items.length) = False := eq_false (by omega)
      have c2 : ((at_ : Int) == 0) = false := by simp; omega
      rw [leavesM, if_neg hc, List.append_nil, List.append_nil] at hR
      rw [AW_loop]
      unfold c26L3
      simp only [↓vp, vq0, vq1, vq2, vq3, vr0, vr1, vr2, vr3, vr4, vr5, vr6, vr7, vr8, vr9, vr10, vr11, vr12, vr13, vr14, vr15, vr16, vr17, vr18, vr19, vr20, vr21, vr22, vr23, vr24, vr25, vr26, vr27, vr28, vr29, vr30, vr31, vr32, vr33, vr34, opS, fpS, okP, pack, nAl, allocA, shId, leaves, fillA, fillR, splice, Nat.reduceLT, Nat.reduceEqDiff, Nat.reduceLeDiff, Nat.reduceAdd, Nat.reduceSub, Nat.reduceMul, Int.reduceBEq, Int.reduceBNe, Int.reduceLT, Int.reduceLE, Int.reduceEq, reduceIte, reduceCtorEq, da, int, boolA, q0, q11, c1, c2]
      refine hex _ K S8 S9 (by rw [hR]; exact h8) (by rw [hR]; exact h9) ?_ ?_ ?_ ?_ <;> simp only [↓vp, vq0, vq1, vq2, vq3, vr0, vr1, vr2, vr3, vr4, vr5, vr6, vr7, vr8, vr9, vr10, vr11, vr12, vr13, vr14, vr15, vr16, vr17, vr18, vr19, vr20, vr21, vr22, vr23, vr24, vr25, vr26, vr27, vr28, vr29, vr30, vr31, vr32, vr33, vr34, opS, fpS, okP, pack, nAl, allocA, shId, leaves, fillA, fillR, splice, Nat.reduceLT, Nat.reduceEqDiff, Nat.reduceLeDiff, Nat.reduceAdd, Nat.reduceSub, Nat.reduceMul, Int.reduceBEq, Int.reduceBNe, Int.reduceLT, Int.reduceLE, Int.reduceEq, reduceIte, reduceCtorEq, da, int, boolA, q2, q8, q9, q10, hR]

/-! ### branches -/
def clearK (g : List KidM) : List KidM := match g with
  | [] => []
  | x :: g => ⟨[], x.ref⟩ :: g
def cutTo (n at_ fan : Nat) : Nat := if n ≤ at_ + fan + 1 then n else at_ + fan
def brN (g : List KidM) (next : Int) : NamedM := ⟨next, ⟨false, [], clearK g⟩⟩
def brK (g : List KidM) (next : Int) : KidM := ⟨(g[0]?.map (·.key)).getD [], next⟩
/-- A level of branches. -/
def levelM (kids : List KidM) (fan : Nat) : Nat → Nat → Nat → List NamedM × List KidM
  | 0, _, _ => ([], [])
  | d + 1, at_, next => if at_ < kids.length then
      (brN ((kids.drop at_).take (cutTo kids.length at_ fan - at_)) next :: (levelM kids fan d (cutTo kids.length at_ fan) (next + 1)).1, brK ((kids.drop at_).take (cutTo kids.length at_ fan - at_)) next :: (levelM kids fan d (cutTo kids.length at_ fan) (next + 1)).2)
    else ([], [])
/-- Level by level, till one is left. -/
def upM (fan : Nat) : Nat → List KidM → Nat → List NamedM × Int
  | 0, kids, _ => ([], (kids[0]?.map (·.ref)).getD 0)
  | d + 1, kids, next => if 1 < kids.length then
      ((levelM kids fan kids.length 0 next).1 ++ (upM fan d (levelM kids fan kids.length 0 next).2 (next + (levelM kids fan kids.length 0 next).1.length)).1, (upM fan d (levelM kids fan kids.length 0 next).2 (next + (levelM kids fan kids.length 0 next).1.length)).2)
    else ([], (kids[0]?.map (·.ref)).getD 0)
def madeM (items : List ItemM) (many fan : Nat) : List NamedM × Int :=
  ((leavesM items many (items.length + 1) 0 2).1 ++ (upM fan 100 (leavesM items many (items.length + 1) 0 2).2 (2 + (leavesM items many (items.length + 1) 0 2).1.length)).1,
    (upM fan 100 (leavesM items many (items.length + 1) 0 2).2 (2 + (leavesM items many (items.length + 1) 0 2).1.length)).2)
end Go.VI

/- VI, part TI: Made, walked: branches. -/
set_option linter.unusedVariables false
set_option linter.unusedSimpArgs false
set_option maxRecDepth 100000
namespace Go.VI
attribute [local congr] AW_congr OW_congr DW_congr NW_congr VW_congr GW_congr PW_congr KW_congr ite_congr' GV_congr CV_congr

theorem l26c (kids : List KidM) (hn : kids.length ≤ 100) (fan : Nat) (hf : 2 ≤ fan ∧ fan ≤ 20) (id9 next0 : Nat) (l0 : List NamedM) (hnx : next0 ≤ 1000) (hl0 : l0.length ≤ 1000) (R : List NamedM × List KidM) {Q : AExit → Env → Heap → Prop}
   (hex : ∀ f' K S8 S15, Rep K 4 S8 ((l0 ++ R.1).map namedC) → Rep K 2 S15 (R.2.map kidC) → f' 2 = int fan → f' 8 = S8 → f' 15 = S15 → f' 10 = int (next0 + R.1.length : Nat) → Q (.exit 6) (mkE 131 f') (hx K [])) :
   ∀ (d at_ : Nat) (acc : List NamedM) (kacc : List KidM) (S8 S15 : AV) (B : Nat) (K : Heap) (f : Nat → AV), kids.length ≤ at_ + d → acc.length = kacc.length → acc.length + d ≤ 100 → at_ ≤ kids.length →
    R = (acc ++ (levelM kids fan d at_ (next0 + acc.length)).1, kacc ++ (levelM kids fan d at_ (next0 + acc.length)).2) → Rep K 4 S8 ((l0 ++ acc).map namedC) → RepB B K 2 S15 (kacc.map kidC) → id9 < B → K.get id9 = some (.row false 2 (kids.map kidC)) →
    f 2 = int fan → f 8 = S8 → f 9 = .sl id9 0 kids.length → f 10 = int (next0 + acc.length : Nat) → f 15 = S15 → f 16 = int at_ →
    AW ft (.loop c26L4) (mkE 131 f) (hx K []) Q := by
  intro d
  induction d with
  | zero =>
    intro at_ acc kacc S8 S15 B K f hd hl hl2 ha hR h8 h15 hB g9 q2 q8 q9 q10 q15 q16
    have c1 : ((at_ : Int) < kids.length) = False := eq_false (by omega)
    rw [AW_loop]
    unfold c26L4
    simp only [levelM, List.append_nil] at hR
    simp only [↓vp, vq0, vq1, vq2, vq3, vr0, vr1, vr2, vr3, vr4, vr5, vr6, vr7, vr8, vr9, vr10, vr11, vr12, vr13, vr14, vr15, vr16, vr17, vr18, vr19, vr20, vr21, vr22, vr23, vr24, vr25, vr26, vr27, vr28, vr29, vr30, vr31, vr32, vr33, vr34, opS, fpS, okP, pack, nAl, allocA, shId, leaves, fillA, fillR, splice, Nat.reduceLT, Nat.reduceEqDiff, Nat.reduceLeDiff, Nat.reduceAdd, Nat.reduceSub, Nat.reduceMul, Int.reduceBEq, Int.reduceBNe, Int.reduceLT, Int.reduceLE, Int.reduceEq, reduceIte, reduceCtorEq, da, int, boolA, q9, q16, c1]
    refine hex _ K S8 S15 (by rw [hR]; exact h8) (by rw [hR]; exact h15.rep) ?_ ?_ ?_ ?_ <;> simp only [↓vp, vq0, vq1, vq2, vq3, vr0, vr1, vr2, vr3, vr4, vr5, vr6, vr7, vr8, vr9, vr10, vr11, vr12, vr13, vr14, vr15, vr16, vr17, vr18, vr19, vr20, vr21, vr22, vr23, vr24, vr25, vr26, vr27, vr28, vr29, vr30, vr31, vr32, vr33, vr34, opS, fpS, okP, pack, nAl, allocA, shId, leaves, fillA, fillR, splice, Nat.reduceLT, Nat.reduceEqDiff, Nat.reduceLeDiff, Nat.reduceAdd, Nat.reduceSub, Nat.reduceMul, Int.reduceBEq, Int.reduceBNe, Int.reduceLT, Int.reduceLE, Int.reduceEq, reduceIte, reduceCtorEq, da, int, boolA, q2, q8, q10, q15, hR]
  | succ d ih =>
    intro at_ acc kacc S8 S15 B K f hd hl hl2 ha hR h8 h15 hB g9 q2 q8 q9 q10 q15 q16
    by_cases hc : at_ < kids.length
    · rw [levelM, if_pos hc] at hR
      have c1 : ((at_ : Int) < kids.length) = True := eq_true (by omega)
      have w1 : IntKind.i64.wrap ((at_ : Int) + (fan : Int)) = ((at_ + fan : Nat) : Int) := by rw [wrap_i64 (by omega)]; rfl
      have w2 : IntKind.i64.wrap (((at_ + fan : Nat) : Int) + 1) = ((at_ + (fan + 1) : Nat) : Int) := by rw [wrap_i64 (by omega)]; rfl
      have w3 : IntKind.i64.wrap (((next0 + acc.length : Nat) : Int) + 1) = ((next0 + (acc.length + 1) : Nat) : Int) := by rw [wrap_i64 (by omega)]; omega
      have l9 := Heap.get_lt g9
      have o9 := get_old g9
      have b1 : at_ < cutTo kids.length at_ fan := by unfold cutTo; split <;> omega
      have b2 : cutTo kids.length at_ fan ≤ kids.length := by unfold cutTo; split <;> omega
      have hT : ((kids.length : Int) ≤ ((at_ + (fan + 1) : Nat) : Int)) = (kids.length ≤ at_ + fan + 1) := propext (by omega)
      have hTv : cutTo kids.length at_ fan = if kids.length ≤ at_ + fan + 1 then kids.length else at_ + fan := rfl
      generalize cutTo kids.length at_ fan = T at *
      have hg : ∃ x g, (kids.drop at_).take (T - at_) = x :: g ∧ g.length + 1 = T - at_ := by
        refine ⟨kids[at_], (kids.drop (at_ + 1)).take (T - at_ - 1), ?_, by simp; omega⟩
        rw [List.drop_eq_getElem_cons hc, show T - at_ = (T - at_ - 1) + 1 by omega, List.take_succ_cons]
        simp
      obtain ⟨x, g, hg, hgl⟩ := hg
      have hrow : ((kids.map kidC).drop at_).take (T - at_) = kidC x :: g.map kidC := by
        rw [← List.map_drop, ← List.map_take, hg]; rfl
      have sl9 : ∀ L, sliceA (hx K L) 2 (.sl id9 0 kids.length) (some (at_ : Int)) (some (T : Int)) none = some (.sl id9 at_ (T - at_)) := fun L => by
        rw [slA, rowSz_of (o9 L), if_pos rfl]
        unfold boundsA
        simp only [Option.getD_none, Option.getD_some]
        rw [if_pos (by omega)]
        simp
        omega
      have ro9 : ∀ L, rowsOf (hx K L) (.sl id9 at_ (T - at_)) = some (kidC x :: g.map kidC) := fun L => by
        rw [rowsOf_sl, o9 L]
        simp only
        rw [if_pos (by simp; omega), hrow]
      have cp : ((0 : Int) < ((g.length + 1 : Nat) : Int)) = True := eq_true (by omega)
      have kd1 : (kidC x).drop 1 = [int x.ref] := rfl
      have tkg : ∀ (a : List AV), (a :: g.map kidC).take (g.length + 1) = a :: g.map kidC := fun a => List.take_of_length_le (by simp)
      have szk : allSz 2 (g.map kidC) = true := by simp [allSz, len_kidC]
      rw [hg] at hR
      have hb1 : ((g.length + 1) * 32 ≤ 140737488355328) = True := eq_true (by omega)
      have ap15 := fun nid L => appA_rep (nid := nid) (bytes := 32) h15.rep (xs := [[encB x.key, int (next0 + acc.length : Nat)]]) (by simp) rfl (by simp; omega) L
      have k15 := kill_next K S15
      have h8' : Rep (kill K S15) 4 S8 ((l0 ++ acc).map namedC) := h8.mono fun j h => kill_get h15.rep h fun r e => by cases e
      have ap8 := fun nid L => appA_rep (nid := nid) (bytes := 64) h8' (xs := [namedC (brN (x :: g) (next0 + acc.length : Nat))]) (by simp) rfl (by simp; omega) L
      have k8 : (kill (kill K S15) S8).next = K.next := by rw [kill_next, kill_next]
      have g9' : (kill (kill K S15) S8).get id9 = some (.row false 2 (kids.map kidC)) := by
        refine kill_get h8' ?_ fun r e => by cases e
        rw [h15.kill.2 id9 hB, g9]
      have step : ∀ (f : Nat → AV) (L : List Blk) (i j : Nat), K.next ≤ i → K.next ≤ j → (hx (kill (kill K S15) S8) L).get i = some (.row false 4 ((l0 ++ (acc ++ [brN (x :: g) (next0 + acc.length : Nat)])).map namedC)) → (hx (kill (kill K S15) S8) L).get j = some (.row false 2 ((kacc ++ [brK (x :: g) (next0 + acc.length : Nat)]).map kidC)) →
          f 2 = int fan → f 8 = .sl i 0 (l0.length + (acc.length + 1)) → f 9 = .sl id9 0 kids.length → f 10 = int (next0 + (acc.length + 1) : Nat) → f 15 = .sl j 0 (kacc.length + 1) → f 16 = int T →
          AW ft (.loop c26L4) (mkE 131 f) (hx (kill (kill K S15) S8) L) Q := fun f L i j hi hj gi gj z2 z8 z9 z10 z15 z16 => by
        rw [← hx_nil (hx (kill (kill K S15) S8) L)]
        refine ih T (acc ++ [brN (x :: g) (next0 + acc.length : Nat)]) (kacc ++ [brK (x :: g) (next0 + acc.length : Nat)]) _ _ K.next (hx (kill (kill K S15) S8) L) f (by omega) (by simp; omega) (by simp; omega) b2 ?_ (.inr ⟨i, ?_, gi⟩) (.inr ⟨j, hj, ?_, gj⟩) l9 (get_old g9' L) z2 z8 z9 ?_ z15 z16
        · rw [hR]
          simp [List.append_assoc, Nat.add_assoc]
        · simp
        · simp
        · simpa using z10
      have kc : kidC (⟨[], x.ref⟩ : KidM) = [.lst [], .sc (.int .i64 x.ref)] := rfl
      simp only [brN, clearK, namedC, nodeC, encI, encK, List.map_nil, List.map_cons, kc, int, boolA] at ap8 ap15
      rw [AW_loop]
      unfold c26L4
      by_cases c2 : kids.length ≤ at_ + (fan + 1)
      · rw [if_pos (by omega)] at hTv
        subst hTv
        simp only [↓vp, vq0, vq1, vq2, vq3, vr0, vr1, vr2, vr3, vr4, vr5, vr6, vr7, vr8, vr9, vr10, vr11, vr12, vr13, vr14, vr15, vr16, vr17, vr18, vr19, vr20, vr21, vr22, vr23, vr24, vr25, vr26, vr27, vr28, vr29, vr30, vr31, vr32, vr33, vr34, opS, fpS, okP, pack, nAl, allocA, shId, leaves, fillA, fillR, splice, Nat.reduceLT, Nat.reduceEqDiff, Nat.reduceLeDiff, Nat.reduceAdd, Nat.reduceSub, Nat.reduceMul, Int.reduceBEq, Int.reduceBNe, Int.reduceLT, Int.reduceLE, Int.reduceEq, reduceIte, reduceCtorEq, da, int, boolA, q2, q8, q9, q10, q15, q16, c1, w1, w2, w3, hT, c2, opI1, opI0, sl9, ro9, szk, hb1, ias, rsz, Int.toNat_zero, ap15, k15, ap8, k8, cp, kd1, tkg]
        refine step _ _ (K.next + 6) (K.next + 4) (by omega) (by omega) ?_ ?_ ?_ ?_ ?_ ?_ ?_ ?_
        · simp only [↓vp, vq0, vq1, vq2, vq3, vr0, vr1, vr2, vr3, vr4, vr5, vr6, vr7, vr8, vr9, vr10, vr11, vr12, vr13, vr14, vr15, vr16, vr17, vr18, vr19, vr20, vr21, vr22, vr23, vr24, vr25, vr26, vr27, vr28, vr29, vr30, vr31, vr32, vr33, vr34, opS, fpS, okP, pack, nAl, allocA, shId, leaves, fillA, fillR, splice, Nat.reduceLT, Nat.reduceEqDiff, Nat.reduceLeDiff, Nat.reduceAdd, Nat.reduceSub, Nat.reduceMul, Int.reduceBEq, Int.reduceBNe, Int.reduceLT, Int.reduceLE, Int.reduceEq, reduceIte, reduceCtorEq, k8, List.map_append, List.append_assoc]
          rfl
        · simp only [↓vp, vq0, vq1, vq2, vq3, vr0, vr1, vr2, vr3, vr4, vr5, vr6, vr7, vr8, vr9, vr10, vr11, vr12, vr13, vr14, vr15, vr16, vr17, vr18, vr19, vr20, vr21, vr22, vr23, vr24, vr25, vr26, vr27, vr28, vr29, vr30, vr31, vr32, vr33, vr34, opS, fpS, okP, pack, nAl, allocA, shId, leaves, fillA, fillR, splice, Nat.reduceLT, Nat.reduceEqDiff, Nat.reduceLeDiff, Nat.reduceAdd, Nat.reduceSub, Nat.reduceMul, Int.reduceBEq, Int.reduceBNe, Int.reduceLT, Int.reduceLE, Int.reduceEq, reduceIte, reduceCtorEq, k8, List.map_append]
          rfl
        all_goals simp only [↓vp, vq0, vq1, vq2, vq3, vr0, vr1, vr2, vr3, vr4, vr5, vr6, vr7, vr8, vr9, vr10, vr11, vr12, vr13, vr14, vr15, vr16, vr17, vr18, vr19, vr20, vr21, vr22, vr23, vr24, vr25, vr26, vr27, vr28, vr29, vr30, vr31, vr32, vr33, vr34, opS, fpS, okP, pack, nAl, allocA, shId, leaves, fillA, fillR, splice, Nat.reduceLT, Nat.reduceEqDiff, Nat.reduceLeDiff, Nat.reduceAdd, Nat.reduceSub, Nat.reduceMul, Int.reduceBEq, Int.reduceBNe, Int.reduceLT, Int.reduceLE, Int.reduceEq, reduceIte, reduceCtorEq, da, int, boolA, q2, q9, List.length_append]
      · rw [if_neg (by omega)] at hTv
        subst hTv
        simp only [↓vp, vq0, vq1, vq2, vq3, vr0, vr1, vr2, vr3, vr4, vr5, vr6, vr7, vr8, vr9, vr10, vr11, vr12, vr13, vr14, vr15, vr16, vr17, vr18, vr19, vr20, vr21, vr22, vr23, vr24, vr25, vr26, vr27, vr28, vr29, vr30, vr31, vr32, vr33, vr34, opS, fpS, okP, pack, nAl, allocA, shId, leaves, fillA, fillR, splice, Nat.reduceLT, Nat.reduceEqDiff, Nat.reduceLeDiff, Nat.reduceAdd, Nat.reduceSub, Nat.reduceMul, Int.reduceBEq, Int.reduceBNe, Int.reduceLT, Int.reduceLE, Int.reduceEq, reduceIte, reduceCtorEq, da, int, boolA, q2, q8, q9, q10, q15, q16, c1, w1, w2, w3, hT, c2, opI1, opI0, sl9, ro9, szk, hb1, ias, rsz, Int.toNat_zero, ap15, k15, ap8, k8, cp, kd1, tkg]
        refine step _ _ (K.next + 6) (K.next + 4) (by omega) (by omega) ?_ ?_ ?_ ?_ ?_ ?_ ?_ ?_
        · simp only [↓vp, vq0, vq1, vq2, vq3, vr0, vr1, vr2, vr3, vr4, vr5, vr6, vr7, vr8, vr9, vr10, vr11, vr12, vr13, vr14, vr15, vr16, vr17, vr18, vr19, vr20, vr21, vr22, vr23, vr24, vr25, vr26, vr27, vr28, vr29, vr30, vr31, vr32, vr33, vr34, opS, fpS, okP, pack, nAl, allocA, shId, leaves, fillA, fillR, splice, Nat.reduceLT, Nat.reduceEqDiff, Nat.reduceLeDiff, Nat.reduceAdd, Nat.reduceSub, Nat.reduceMul, Int.reduceBEq, Int.reduceBNe, Int.reduceLT, Int.reduceLE, Int.reduceEq, reduceIte, reduceCtorEq, k8, List.map_append, List.append_assoc]
          rfl
        · simp only [↓vp, vq0, vq1, vq2, vq3, vr0, vr1, vr2, vr3, vr4, vr5, vr6, vr7, vr8, vr9, vr10, vr11, vr12, vr13, vr14, vr15, vr16, vr17, vr18, vr19, vr20, vr21, vr22, vr23, vr24, vr25, vr26, vr27, vr28, vr29, vr30, vr31, vr32, vr33, vr34, opS, fpS, okP, pack, nAl, allocA, shId, leaves, fillA, fillR, splice, Nat.reduceLT, Nat.reduceEqDiff, Nat.reduceLeDiff, Nat.reduceAdd, Nat.reduceSub, Nat.reduceMul, Int.reduceBEq, Int.reduceBNe, Int.reduceLT, Int.reduceLE, Int.reduceEq, reduceIte, reduceCtorEq, k8, List.map_append]
          rfl
        all_goals simp only [↓vp, vq0, vq1, vq2, vq3, vr0, vr1, vr2, vr3, vr4, vr5, vr6, vr7, vr8, vr9, vr10, vr11, vr12, vr13, vr14, vr15, vr16, vr17, vr18, vr19, vr20, vr21, vr22, vr23, vr24, vr25, vr26, vr27, vr28, vr29, vr30, vr31, vr32, vr33, vr34, opS, fpS, okP, pack, nAl, allocA, shId, leaves, fillA, fillR, splice, Nat.reduceLT, Nat.reduceEqDiff, Nat.reduceLeDiff, Nat.reduceAdd, Nat.reduceSub, Nat.reduceMul, Int.reduceBEq, Int.reduceBNe, Int.reduceLT, Int.reduceLE, Int.reduceEq, reduceIte, reduceCtorEq, da, int, boolA, q2, q9, List.length_append]
    · have c1 : ((at_ : Int) < kids.length) = False := eq_false (by omega)
      rw [levelM, if_neg hc, List.append_nil, List.append_nil] at hR
      rw [AW_loop]
      unfold c26L4
      simp only [↓vp, vq0, vq1, vq2, vq3, vr0, vr1, vr2, vr3, vr4, vr5, vr6, vr7, vr8, vr9, vr10, vr11, vr12, vr13, vr14, vr15, vr16, vr17, vr18, vr19, vr20, vr21, vr22, vr23, vr24, vr25, vr26, vr27, vr28, vr29, vr30, vr31, vr32, vr33, vr34, opS, fpS, okP, pack, nAl, allocA, shId, leaves, fillA, fillR, splice, Nat.reduceLT, Nat.reduceEqDiff, Nat.reduceLeDiff, Nat.reduceAdd, Nat.reduceSub, Nat.reduceMul, Int.reduceBEq, Int.reduceBNe, Int.reduceLT, Int.reduceLE, Int.reduceEq, reduceIte, reduceCtorEq, da, int, boolA, q9, q16, c1]
      refine hex _ K S8 S15 (by rw [hR]; exact h8) (by rw [hR]; exact h15.rep) ?_ ?_ ?_ ?_ <;> simp only [↓vp, vq0, vq1, vq2, vq3, vr0, vr1, vr2, vr3, vr4, vr5, vr6, vr7, vr8, vr9, vr10, vr11, vr12, vr13, vr14, vr15, vr16, vr17, vr18, vr19, vr20, vr21, vr22, vr23, vr24, vr25, vr26, vr27, vr28, vr29, vr30, vr31, vr32, vr33, vr34, opS, fpS, okP, pack, nAl, allocA, shId, leaves, fillA, fillR, splice, Nat.reduceLT, Nat.reduceEqDiff, Nat.reduceLeDiff, Nat.reduceAdd, Nat.reduceSub, Nat.reduceMul, Int.reduceBEq, Int.reduceBNe, Int.reduceLT, Int.reduceLE, Int.reduceEq, reduceIte, reduceCtorEq, da, int, boolA, q2, q8, q10, q15, hR]

theorem level_len (kids : List KidM) (fan : Nat) (hf : 2 ≤ fan) : ∀ (d at_ next : Nat), (at_ = kids.length ∨ at_ + 2 ≤ kids.length) → kids.length ≤ at_ + d →
    2 * (levelM kids fan d at_ next).2.length ≤ kids.length - at_ ∧ (levelM kids fan d at_ next).1.length = (levelM kids fan d at_ next).2.length ∧ (at_ < kids.length → 0 < (levelM kids fan d at_ next).2.length)
  | 0, at_, next, h, hd => by simp [levelM]; omega
  | d + 1, at_, next, h, hd => by
    rw [levelM]
    by_cases hc : at_ < kids.length
    · rw [if_pos hc]
      have h2 : at_ + 2 ≤ kids.length := by omega
      have e : cutTo kids.length at_ fan = kids.length ∨ (cutTo kids.length at_ fan = at_ + fan ∧ at_ + fan + 2 ≤ kids.length) := by unfold cutTo; split <;> omega
      obtain ⟨g1, g2, g3⟩ := level_len kids fan hf d (cutTo kids.length at_ fan) (next + 1) (by omega) (by omega)
      refine ⟨?_, by simp [g2], fun _ => by simp⟩
      simp only [List.length_cons]
      omega
    · rw [if_neg hc]
      simp
      omega
theorem l26d (fan : Nat) (hf : 2 ≤ fan ∧ fan ≤ 20) (R : List NamedM × Int) {Q : AExit → Env → Heap → Prop}
   (hex : ∀ f' K S8 S9 k, Rep K 4 S8 (R.1.map namedC) → Rep K 2 S9 [kidC k] → R.2 = k.ref → f' 8 = S8 → f' 9 = S9 → Q (.exit 4) (mkE 131 f') (hx K [])) :
   ∀ (d : Nat) (kids : List KidM) (l0 : List NamedM) (S8 S9 : AV) (K : Heap) (f : Nat → AV), kids.length ≤ d + 1 → 0 < kids.length → kids.length ≤ 99 → l0.length + kids.length ≤ 200 → R = (l0 ++ (upM fan d kids (2 + l0.length)).1, (upM fan d kids (2 + l0.length)).2) →
    Rep K 4 S8 (l0.map namedC) → Rep K 2 S9 (kids.map kidC) → f 2 = int fan → f 8 = S8 → f 9 = S9 → f 10 = int (2 + l0.length : Nat) →
    AW ft (.loop c26L6) (mkE 131 f) (hx K []) Q := by
  have done : ∀ (kids : List KidM) (l0 : List NamedM) (S8 S9 : AV) (K : Heap) (f : Nat → AV), kids.length = 1 → R = (l0, (kids[0]?.map (·.ref)).getD 0) → Rep K 4 S8 (l0.map namedC) → Rep K 2 S9 (kids.map kidC) → f 2 = int fan → f 8 = S8 → f 9 = S9 → AW ft (.loop c26L6) (mkE 131 f) (hx K []) Q := by
    intro kids l0 S8 S9 K f hk hR h8 h9 q2 q8 q9
    obtain ⟨k, rfl⟩ : ∃ k, kids = [k] := by
      match kids, hk with
      | [k], _ => exact ⟨k, rfl⟩
    rcases h9 with ⟨_, h⟩ | ⟨id, rfl, h9⟩
    · cases h
    · have c1 : ((1 : Int) < (([k].map kidC).length : Int)) = False := eq_false (by simp)
      rw [AW_loop]
      unfold c26L6
      simp only [↓vp, vq0, vq1, vq2, vq3, vr0, vr1, vr2, vr3, vr4, vr5, vr6, vr7, vr8, vr9, vr10, vr11, vr12, vr13, vr14, vr15, vr16, vr17, vr18, vr19, vr20, vr21, vr22, vr23, vr24, vr25, vr26, vr27, vr28, vr29, vr30, vr31, vr32, vr33, vr34, opS, fpS, okP, pack, nAl, allocA, shId, leaves, fillA, fillR, splice, Nat.reduceLT, Nat.reduceEqDiff, Nat.reduceLeDiff, Nat.reduceAdd, Nat.reduceSub, Nat.reduceMul, Int.reduceBEq, Int.reduceBNe, Int.reduceLT, Int.reduceLE, Int.reduceEq, reduceIte, reduceCtorEq, da, int, boolA, q9]
      refine hex _ K S8 (.sl id 0 1) k (by rw [hR]; exact h8) (.inr ⟨id, rfl, h9⟩) (by rw [hR]; rfl) ?_ ?_ <;> simp only [↓vp, vq0, vq1, vq2, vq3, vr0, vr1, vr2, vr3, vr4, vr5, vr6, vr7, vr8, vr9, vr10, vr11, vr12, vr13, vr14, vr15, vr16, vr17, vr18, vr19, vr20, vr21, vr22, vr23, vr24, vr25, vr26, vr27, vr28, vr29, vr30, vr31, vr32, vr33, vr34, opS, fpS, okP, pack, nAl, allocA, shId, leaves, fillA, fillR, splice, Nat.reduceLT, Nat.reduceEqDiff, Nat.reduceLeDiff, Nat.reduceAdd, Nat.reduceSub, Nat.reduceMul, Int.reduceBEq, Int.reduceBNe, Int.reduceLT, Int.reduceLE, Int.reduceEq, reduceIte, reduceCtorEq, da, int, boolA, q8, q9]
  intro d
  induction d with
  | zero =>
    intro kids l0 S8 S9 K f hd h1 h99 h200 hR h8 h9 q2 q8 q9 q10
    refine done kids l0 S8 S9 K f (by omega) (by rw [hR]; simp [upM]) h8 h9 q2 q8 q9
  | succ d ih =>
    intro kids l0 S8 S9 K f hd h1 h99 h200 hR h8 h9 q2 q8 q9 q10
    by_cases hk : 1 < kids.length
    · rw [upM, if_pos hk] at hR
      obtain ⟨g1, g2, g3⟩ := level_len kids fan hf.1 kids.length 0 (2 + l0.length) (by omega) (by omega)
      have g3 := g3 (by omega)
      have h9' := h9
      rcases h9' with ⟨_, h⟩ | ⟨id, rfl, h9'⟩
      · have : kids = [] := by simpa using h
        rw [this] at hk; simp at hk
      · have c1 : ((1 : Int) < (kids.length : Int)) = True := eq_true (by omega)
        rw [List.length_map] at q9
        rw [AW_loop]
        unfold c26L6
        simp only [↓vp, vq0, vq1, vq2, vq3, vr0, vr1, vr2, vr3, vr4, vr5, vr6, vr7, vr8, vr9, vr10, vr11, vr12, vr13, vr14, vr15, vr16, vr17, vr18, vr19, vr20, vr21, vr22, vr23, vr24, vr25, vr26, vr27, vr28, vr29, vr30, vr31, vr32, vr33, vr34, opS, fpS, okP, pack, nAl, allocA, shId, leaves, fillA, fillR, splice, Nat.reduceLT, Nat.reduceEqDiff, Nat.reduceLeDiff, Nat.reduceAdd, Nat.reduceSub, Nat.reduceMul, Int.reduceBEq, Int.reduceBNe, Int.reduceLT, Int.reduceLE, Int.reduceEq, reduceIte, reduceCtorEq, da, int, boolA, q9, c1]
        refine l26c kids (by omega) fan hf id (2 + l0.length) l0 (by omega) (by omega) (levelM kids fan kids.length 0 (2 + l0.length)) (fun f' K' S8' S15 r8 r15 p2 p8 p15 p10 => ?_) kids.length 0 [] [] S8 (.sc (.slice none 0 0)) K.next K _ (by omega) rfl (by simp; omega) (by omega) ?_ ?_ (.inl ⟨rfl, rfl⟩) (Heap.get_lt h9') h9' ?_ ?_ ?_ ?_ ?_ ?_
        · unfold c26R5
          simp only [↓vp, vq0, vq1, vq2, vq3, vr0, vr1, vr2, vr3, vr4, vr5, vr6, vr7, vr8, vr9, vr10, vr11, vr12, vr13, vr14, vr15, vr16, vr17, vr18, vr19, vr20, vr21, vr22, vr23, vr24, vr25, vr26, vr27, vr28, vr29, vr30, vr31, vr32, vr33, vr34, opS, fpS, okP, pack, nAl, allocA, shId, leaves, fillA, fillR, splice, Nat.reduceLT, Nat.reduceEqDiff, Nat.reduceLeDiff, Nat.reduceAdd, Nat.reduceSub, Nat.reduceMul, Int.reduceBEq, Int.reduceBNe, Int.reduceLT, Int.reduceLE, Int.reduceEq, reduceIte, reduceCtorEq, da, int, boolA, p15]
          refine ih (levelM kids fan kids.length 0 (2 + l0.length)).2 (l0 ++ (levelM kids fan kids.length 0 (2 + l0.length)).1) S8' S15 K' _ (by omega) g3 (by omega) (by simp; omega) ?_ r8 r15 ?_ ?_ ?_ ?_
          · rw [hR]
            simp [List.append_assoc, Nat.add_assoc]
          · simp only [↓vp, vq0, vq1, vq2, vq3, vr0, vr1, vr2, vr3, vr4, vr5, vr6, vr7, vr8, vr9, vr10, vr11, vr12, vr13, vr14, vr15, vr16, vr17, vr18, vr19, vr20, vr21, vr22, vr23, vr24, vr25, vr26, vr27, vr28, vr29, vr30, vr31, vr32, vr33, vr34, opS, fpS, okP, pack, nAl, allocA, shId, leaves, fillA, fillR, splice, Nat.reduceLT, Nat.reduceEqDiff, Nat.reduceLeDiff, Nat.reduceAdd, Nat.reduceSub, Nat.reduceMul, Int.reduceBEq, Int.reduceBNe, Int.reduceLT, Int.reduceLE, Int.reduceEq, reduceIte, reduceCtorEq, da, int, boolA, p2]
          · simp only [↓vp, vq0, vq1, vq2, vq3, vr0, vr1, vr2, vr3, vr4, vr5, vr6, vr7, vr8, vr9, vr10, vr11, vr12, vr13, vr14, vr15, vr16, vr17, vr18, vr19, vr20, vr21, vr22, vr23, vr24, vr25, vr26, vr27, vr28, vr29, vr30, vr31, vr32, vr33, vr34, opS, fpS, okP, pack, nAl, allocA, shId, leaves, fillA, fillR, splice, Nat.reduceLT, Nat.reduceEqDiff, Nat.reduceLeDiff, Nat.reduceAdd, Nat.reduceSub, Nat.reduceMul, Int.reduceBEq, Int.reduceBNe, Int.reduceLT, Int.reduceLE, Int.reduceEq, reduceIte, reduceCtorEq, da, int, boolA, p8]
          · simp only [↓vp, vq0, vq1, vq2, vq3, vr0, vr1, vr2, vr3, vr4, vr5, vr6, vr7, vr8, vr9, vr10, vr11, vr12, vr13, vr14, vr15, vr16, vr17, vr18, vr19, vr20, vr21, vr22, vr23, vr24, vr25, vr26, vr27, vr28, vr29, vr30, vr31, vr32, vr33, vr34, opS, fpS, okP, pack, nAl, allocA, shId, leaves, fillA, fillR, splice, Nat.reduceLT, Nat.reduceEqDiff, Nat.reduceLeDiff, Nat.reduceAdd, Nat.reduceSub, Nat.reduceMul, Int.reduceBEq, Int.reduceBNe, Int.reduceLT, Int.reduceLE, Int.reduceEq, reduceIte, reduceCtorEq, da, int, boolA]
          · simp only [↓vp, vq0, vq1, vq2, vq3, vr0, vr1, vr2, vr3, vr4, vr5, vr6, vr7, vr8, vr9, vr10, vr11, vr12, vr13, vr14, vr15, vr16, vr17, vr18, vr19, vr20, vr21, vr22, vr23, vr24, vr25, vr26, vr27, vr28, vr29, vr30, vr31, vr32, vr33, vr34, opS, fpS, okP, pack, nAl, allocA, shId, leaves, fillA, fillR, splice, Nat.reduceLT, Nat.reduceEqDiff, Nat.reduceLeDiff, Nat.reduceAdd, Nat.reduceSub, Nat.reduceMul, Int.reduceBEq, Int.reduceBNe, Int.reduceLT, Int.reduceLE, Int.reduceEq, reduceIte, reduceCtorEq, da, int, boolA, p10, List.length_append]
        · simp
        · simpa using h8
        all_goals simp only [↓vp, vq0, vq1, vq2, vq3, vr0, vr1, vr2, vr3, vr4, vr5, vr6, vr7, vr8, vr9, vr10, vr11, vr12, vr13, vr14, vr15, vr16, vr17, vr18, vr19, vr20, vr21, vr22, vr23, vr24, vr25, vr26, vr27, vr28, vr29, vr30, vr31, vr32, vr33, vr34, opS, fpS, okP, pack, nAl, allocA, shId, leaves, fillA, fillR, splice, Nat.reduceLT, Nat.reduceEqDiff, Nat.reduceLeDiff, Nat.reduceAdd, Nat.reduceSub, Nat.reduceMul, Int.reduceBEq, Int.reduceBNe, Int.reduceLT, Int.reduceLE, Int.reduceEq, reduceIte, reduceCtorEq, da, int, boolA, q2, q8, q9, q10, Int.natCast_zero, Int.ofNat_zero]
    · rw [upM, if_neg hk] at hR
      exact done kids l0 S8 S9 K f (by omega) (by rw [hR]; simp) h8 h9 q2 q8 q9
theorem leaves_len (items : List ItemM) (many : Nat) (hm : 1 ≤ many) : ∀ (d at_ next : Nat), (leavesM items many d at_ next).1.length = (leavesM items many d at_ next).2.length ∧ (leavesM items many d at_ next).1.length ≤ d ∧ (0 < d → at_ = 0 → 0 < (leavesM items many d at_ next).1.length)
  | 0, at_, next => by simp [leavesM]
  | d + 1, at_, next => by
    rw [leavesM]
    obtain ⟨g1, g2, _⟩ := leaves_len items many hm d (at_ + many) (next + 1)
    split
    · simp [g1]; omega
    · rename_i h
      simp
      omega
theorem s26g (items : List ItemM) (hi : items.length ≤ 60) (many fan : Nat) (hm : 1 ≤ many ∧ many ≤ 20) (hf : 2 ≤ fan ∧ fan ≤ 20) (H : Heap) :
    callL ft (.fn (.func 26) [] []) [encI items, int many, int fan] H = some (.tup [encL (madeM items many fan).1, int (madeM items many fan).2], H) := by
  refine call_p (as' := [encI items, int many, int fan]) rfl rfl (by simp) ?_
  unfold c26 r26
  simp only [↓vp, vq0, vq1, vq2, vq3, vr0, vr1, vr2, vr3, vr4, vr5, vr6, vr7, vr8, vr9, vr10, vr11, vr12, vr13, vr14, vr15, vr16, vr17, vr18, vr19, vr20, vr21, vr22, vr23, vr24, vr25, vr26, vr27, vr28, vr29, vr30, vr31, vr32, vr33, vr34, opS, fpS, okP, pack, nAl, allocA, shId, leaves, fillA, fillR, splice, Nat.reduceLT, Nat.reduceEqDiff, Nat.reduceLeDiff, Nat.reduceAdd, Nat.reduceSub, Nat.reduceMul, Int.reduceBEq, Int.reduceBNe, Int.reduceLT, Int.reduceLE, Int.reduceEq, reduceIte, reduceCtorEq, da, int, boolA]
  obtain ⟨g1, g2, g3⟩ := leaves_len items many hm.1 (items.length + 1) 0 2
  have g3 := g3 (by omega) rfl
  refine l26b items hi many hm fan (leavesM items many (items.length + 1) 0 2) (fun f' K S8 S9 r8 r9 p2 p8 p9 p10 => ?_) (items.length + 1) 0 [] [] (.sc (.slice none 0 0)) (.sc (.slice none 0 0)) _ _ (by omega) (by omega) rfl (by simp) (by simp; omega) (by simp) (.inl ⟨rfl, rfl⟩) (.inl ⟨rfl, rfl⟩) ?_ ?_ ?_ ?_ ?_ ?_ ?_
  · simp only [↓vp, vq0, vq1, vq2, vq3, vr0, vr1, vr2, vr3, vr4, vr5, vr6, vr7, vr8, vr9, vr10, vr11, vr12, vr13, vr14, vr15, vr16, vr17, vr18, vr19, vr20, vr21, vr22, vr23, vr24, vr25, vr26, vr27, vr28, vr29, vr30, vr31, vr32, vr33, vr34, opS, fpS, okP, pack, nAl, allocA, shId, leaves, fillA, fillR, splice, Nat.reduceLT, Nat.reduceEqDiff, Nat.reduceLeDiff, Nat.reduceAdd, Nat.reduceSub, Nat.reduceMul, Int.reduceBEq, Int.reduceBNe, Int.reduceLT, Int.reduceLE, Int.reduceEq, reduceIte, reduceCtorEq, da, int, boolA]
    refine l26d fan hf (madeM items many fan) (fun f' K S8 S9 k r8 r9 hk p8 p9 => ?_) 100 _ _ S8 S9 K _ (by omega) (by omega) (by omega) (by omega) rfl r8 r9 p2 p8 p9 p10
    unfold c26R7
    obtain ⟨K', hK'⟩ := frz_rep (L := []) (by rw [hx_nil]; exact r8) 21
    rcases r9 with ⟨_, h⟩ | ⟨id, rfl, h9⟩
    · cases h
    · have o9 := get_old h9
      simp only [↓vp, vq0, vq1, vq2, vq3, vr0, vr1, vr2, vr3, vr4, vr5, vr6, vr7, vr8, vr9, vr10, vr11, vr12, vr13, vr14, vr15, vr16, vr17, vr18, vr19, vr20, vr21, vr22, vr23, vr24, vr25, vr26, vr27, vr28, vr29, vr30, vr31, vr32, vr33, vr34, opS, fpS, okP, pack, nAl, allocA, shId, leaves, fillA, fillR, splice, Nat.reduceLT, Nat.reduceEqDiff, Nat.reduceLeDiff, Nat.reduceAdd, Nat.reduceSub, Nat.reduceMul, Int.reduceBEq, Int.reduceBNe, Int.reduceLT, Int.reduceLE, Int.reduceEq, reduceIte, reduceCtorEq, da, int, boolA, RetP_go, resT, resC, resN, retV1, retV2, retV3, retV0, frzFZ, takeM, Option.some.injEq, p8, p9, o9, ias, rsz, hK', Int.toNat_zero, Int.natCast_one, Int.ofNat_one, Int.cast_ofNat_Int]
      rw [hk]
      rfl
  all_goals first | rfl | (simp only [↓vp, vq0, vq1, vq2, vq3, vr0, vr1, vr2, vr3, vr4, vr5, vr6, vr7, vr8, vr9, vr10, vr11, vr12, vr13, vr14, vr15, vr16, vr17, vr18, vr19, vr20, vr21, vr22, vr23, vr24, vr25, vr26, vr27, vr28, vr29, vr30, vr31, vr32, vr33, vr34, opS, fpS, okP, pack, nAl, allocA, shId, leaves, fillA, fillR, splice, Nat.reduceLT, Nat.reduceEqDiff, Nat.reduceLeDiff, Nat.reduceAdd, Nat.reduceSub, Nat.reduceMul, Int.reduceBEq, Int.reduceBNe, Int.reduceLT, Int.reduceLE, Int.reduceEq, reduceIte, reduceCtorEq, da, int, boolA]; done)
end Go.VI

/- VI, part TJ: plain law of Made: All tells what was laid. -/
set_option linter.unusedVariables false
set_option linter.unusedSimpArgs false
namespace Go.VI

/-! ### numbers -/
def RL (o : Nat) (l : List NamedM) : Prop := ∀ (i : Nat) (x : NamedM), l[i]? = some x → x.ref = ((o + i : Nat) : Int)
theorem find_RL : ∀ (l : List NamedM) (o i : Nat) (x : NamedM), RL o l → l[i]? = some x → l.find? (fun y => y.ref == ((o + i : Nat) : Int)) = some x
  | [], _, _, _, _, h => by simp at h
  | y :: l, o, 0, x, hr, h => by
    cases h
    have := hr 0 y rfl
    rw [List.find?_cons_of_pos]
    simp [this]
  | y :: l, o, i + 1, x, hr, h => by
    have h0 := hr 0 y rfl
    rw [List.find?_cons_of_neg (by simp [h0]; omega)]
    have := find_RL l (o + 1) i x (fun j z hz => by
      have := hr (j + 1) z hz
      rw [this]; congr 1; omega) h
    rwa [show o + 1 + i = o + (i + 1) by omega] at this
theorem node_RL {l : List NamedM} {o i : Nat} {x : NamedM} (hr : RL o l) (h : l[i]? = some x) (more : List NamedM) : nodeM (l ++ more) ((o + i : Nat) : Int) = (x.n, 0) := by
  unfold nodeM
  rw [List.find?_append, find_RL l o i x hr h]
  rfl
theorem RL_snoc {l : List NamedM} {o : Nat} (hr : RL o l) {x : NamedM} (hx : x.ref = ((o + l.length : Nat) : Int)) : RL o (l ++ [x]) := fun i y hy => by
  by_cases h : i < l.length
  · rw [List.getElem?_append_left h] at hy
    exact hr i y hy
  · rw [List.getElem?_append_right (by omega)] at hy
    have h0 : i - l.length = 0 := by
      rcases Nat.eq_zero_or_pos (i - l.length) with h0 | h0
      · exact h0
      · rw [List.getElem?_eq_none (by simp only [List.length_singleton]; omega)] at hy; cases hy
    rw [h0] at hy
    cases hy
    rw [hx]
    congr 1
    omega

/-! ### what All tells of a part -/
theorem ks_of {p : PlaceM} : ∀ {l : List Bytes} {o : Option Bytes}, Rise l → (∀ x ∈ l, bndM p x = true) → (∀ y, o = some y → ∀ x ∈ l, cmpB y x < 0) → ksM p o l = true
  | [], _, _, _, _ => rfl
  | x :: l, o, hr, hb, ho => by
    obtain ⟨h1, h2⟩ := List.pairwise_cons.1 hr
    simp only [ksM, Bool.and_eq_true]
    refine ⟨⟨hb x List.mem_cons_self, ?_⟩, ks_of h2 (fun y hy => hb y (List.mem_cons_of_mem _ hy)) fun y hy z hz => ?_⟩
    · cases o with
      | none => rfl
      | some y => simpa using ho y rfl x List.mem_cons_self
    · cases hy
      exact h1 z hz
theorem rise_map {l : List ItemM} (h : RiseI l) : Rise (l.map (·.key)) := List.pairwise_map.2 h
def Sub (l : List NamedM) (h : Nat) (ref : Int) (its : List ItemM) (refs : List Int) : Prop :=
  ∀ (d : Nat) (p : PlaceM) (w : WM), p.ref = ref → 1 ≤ p.deep → p.deep + d = 13 → h ≤ d → (p.deep = 1 ∨ its ≠ []) → (∀ x ∈ its, bndM p x.key = true) → (∀ r ∈ refs, r ∉ w.refs) → (w.depth = 0 ∨ w.depth = p.deep + h - 1) →
    visitM l d p w = (0, ⟨w.items ++ its, w.refs ++ refs, p.deep + h - 1⟩)
theorem visit_ok {l : List NamedM} {d : Nat} {p : PlaceM} {w : WM} {n : NodeM} (hd : p.deep ≤ 12) (hn : nodeM l p.ref = (n, 0)) (hr : p.ref ∉ w.refs) (hf : formM w.depth p n = true) :
    visitM l (d + 1) p w = goM (visitM l d) p n (List.range n.kids.length) ⟨if n.leaf then w.items ++ n.items else w.items, w.refs ++ [p.ref], if n.leaf then p.deep else w.depth⟩ := by
  have e : nodeW l p w = (n, 0, ⟨if n.leaf then w.items ++ n.items else w.items, w.refs ++ [p.ref], if n.leaf then p.deep else w.depth⟩) := by
    unfold nodeW
    rw [if_neg (by omega), hn]
    have hc : w.refs.contains p.ref = false := by simpa using hr
    simp [hf, hr]
  rw [visitM, e]
  simp
theorem Sub_leaf {l : List NamedM} {ref : Int} {its : List ItemM} (hn : nodeM l ref = (⟨true, its, []⟩, 0)) (hr : RiseI its) : Sub l 1 ref its [ref] := by
  intro d p w hp h1 h13 hd he hb hnr hw
  obtain ⟨d, rfl⟩ : ∃ e, d = e + 1 := ⟨d - 1, by omega⟩
  subst hp
  rw [visit_ok (n := ⟨true, its, []⟩) (by omega) hn (hnr _ List.mem_cons_self) ?_]
  · show goM _ _ _ [] _ = _
    rw [goM]
    simp
  · unfold formM
    have hk : ksM p none (keysM ⟨true, its, []⟩) = true := ks_of (by simpa [keysM] using rise_map hr) (fun x hx => by
      obtain ⟨y, hy, rfl⟩ := List.mem_map.1 (by simpa [keysM] using hx)
      exact hb y hy) (fun y hy => by cases hy)
    rw [hk]
    have e1 : (!((its.length : Int) == 0) || p.deep == 1) = true := by
      rcases he with he | he
      · simp [he]
      · have : its.length ≠ 0 := fun h => he (List.eq_nil_of_length_eq_zero h)
        simp [this]
    have e2 : (decide (0 < w.depth) && w.depth != p.deep) = false := by
      rcases hw with hw | hw
      · simp [hw]
      · have : w.depth = p.deep := by omega
        simp [this]
    simp [e1, e2]
theorem go_sub {l : List NamedM} {h d : Nat} {p : PlaceM} {n : NodeM} {its : List (List ItemM)} {rfs : List (List Int)} (hd1 : 1 ≤ p.deep) (hd : p.deep + 1 + d = 13) (hh : h ≤ d) (li : its.length = n.kids.length) (lr : rfs.length = n.kids.length)
    (hs : ∀ (k : Nat) (x : List ItemM) (r : List Int), its[k]? = some x → rfs[k]? = some r → Sub l h (kidM p n k).ref x r) (hne : ∀ x ∈ its, x ≠ []) (hb : ∀ (k : Nat) (x : List ItemM), its[k]? = some x → ∀ y ∈ x, bndM (kidM p n k) y.key = true) : ∀ (j k : Nat) (w : WM), k + j = n.kids.length →
    (rfs.drop k).flatten.Nodup → (∀ r ∈ (rfs.drop k).flatten, r ∉ w.refs) → (w.depth = 0 ∨ w.depth = p.deep + h) →
    goM (visitM l d) p n (List.range' k j) w = (0, ⟨w.items ++ (its.drop k).flatten, w.refs ++ (rfs.drop k).flatten, if j = 0 then w.depth else p.deep + h⟩)
  | 0, k, w, hk, _, _, _ => by
    rw [List.drop_eq_nil_of_le (by omega), List.drop_eq_nil_of_le (by omega)]
    simp [goM]
  | j + 1, k, w, hk, hnd, hnr, hw => by
    have h1 : k < its.length := by omega
    have h2 : k < rfs.length := by omega
    have e1 := List.getElem?_eq_getElem h1
    have e2 := List.getElem?_eq_getElem h2
    rw [List.drop_eq_getElem_cons h2, List.flatten_cons] at hnd hnr
    have hv := hs k _ _ e1 e2 d (kidM p n k) w rfl (by show 1 ≤ p.deep + 1; omega) hd hh (.inr (hne _ (List.getElem_mem h1))) (hb k _ e1) (fun r hr => hnr r (List.mem_append_left _ hr)) (by
      rcases hw with hw | hw
      · exact .inl hw
      · right
        show w.depth = p.deep + 1 + h - 1
        omega)
    have hdp : (kidM p n k).deep + h - 1 = p.deep + h := by show p.deep + 1 + h - 1 = _; omega
    rw [hdp] at hv
    rw [List.range'_succ, goM_ok (by rw [hv]), hv]
    obtain ⟨n1, n2, n3⟩ := List.nodup_append.1 hnd
    have ih := go_sub hd1 hd hh li lr hs hne hb j (k + 1) ⟨w.items ++ its[k], w.refs ++ rfs[k], p.deep + h⟩ (by omega) n2 (fun r hr hm => by
      rcases List.mem_append.1 hm with hm | hm
      · exact hnr r (List.mem_append_right _ hr) hm
      · exact n3 r hm r hr rfl) (.inr rfl)
    simp only
    rw [ih, List.drop_eq_getElem_cons h1, List.drop_eq_getElem_cons h2]
    simp only [List.flatten_cons, List.append_assoc, Nat.add_one_ne_zero, if_false, ite_self]
theorem Sub_branch {l : List NamedM} {h : Nat} {ref : Int} {kids : List KidM} {its : List (List ItemM)} {rfs : List (List Int)} (hn : nodeM l ref = (⟨false, [], kids⟩, 0)) (h2 : 2 ≤ kids.length) (li : its.length = kids.length) (lr : rfs.length = kids.length)
    (hs : ∀ (k : Nat) (kid : KidM) (x : List ItemM) (r : List Int), kids[k]? = some kid → its[k]? = some x → rfs[k]? = some r → Sub l h kid.ref x r)
    (hkey : ∀ (k : Nat) (kid : KidM) (x : List ItemM), 0 < k → kids[k]? = some kid → its[k]? = some x → ∃ y ys, x = y :: ys ∧ y.key = kid.key) (hne : ∀ x ∈ its, x ≠ []) (hr : RiseI its.flatten) (hnd : (ref :: rfs.flatten).Nodup) :
    Sub l (h + 1) ref its.flatten (ref :: rfs.flatten) := by
  intro d p w hp h1 h13 hd he hb hnr hw
  obtain ⟨d, rfl⟩ : ∃ e, d = e + 1 := ⟨d - 1, by omega⟩
  subst hp
  obtain ⟨r1, r2⟩ := List.pairwise_flatten.1 hr
  have r2 := List.pairwise_iff_getElem.1 r2
  have bk : ∀ (k : Nat) (x : List ItemM), its[k]? = some x → ∀ y ∈ x, bndM (kidM p ⟨false, [], kids⟩ k) y.key = true := by
    intro k x hx y hy
    obtain ⟨hk, e⟩ := List.getElem?_eq_some_iff.1 hx
    have hk' : k < kids.length := by omega
    have hyb := bnd_iff.1 (hb y (List.mem_flatten.2 ⟨x, by rw [← e]; exact List.getElem_mem hk, hy⟩))
    rw [bnd_iff]
    refine ⟨fun hh => ?_, fun hh => ?_⟩
    · by_cases h0 : 0 < k
      · rw [(kid_low (n := ⟨false, [], kids⟩) hk' h0).2]
        obtain ⟨z, zs, e1, e2⟩ := hkey k _ x h0 (List.getElem?_eq_getElem hk') hx
        show cmpB kids[k].key y.key ≤ 0
        rw [← e2]
        subst e1
        rcases List.mem_cons.1 hy with rfl | hy
        · rw [cmpB_refl]; exact Int.le_refl _
        · have := r1 (z :: zs) (by rw [← e]; exact List.getElem_mem hk)
          exact Int.le_of_lt ((List.pairwise_cons.1 this).1 y hy)
      · have : k = 0 := by omega
        subst this
        rw [kid_low0.2]
        exact hyb.1 (by rwa [kid_low0.1] at hh)
    · by_cases h0 : k + 1 < kids.length
      · rw [(kid_high (n := ⟨false, [], kids⟩) h0).2]
        have hk1 : k + 1 < its.length := by omega
        obtain ⟨z, zs, e1, e2⟩ := hkey (k + 1) _ _ (by omega) (List.getElem?_eq_getElem h0) (List.getElem?_eq_getElem hk1)
        show cmpB y.key kids[k + 1].key < 0
        rw [← e2]
        exact r2 k (k + 1) hk hk1 (by omega) y (by rw [e]; exact hy) z (by rw [e1]; exact List.mem_cons_self)
      · rw [(kid_high0 (n := ⟨false, [], kids⟩) h0).2]
        exact hyb.2 (by rwa [(kid_high0 (n := ⟨false, [], kids⟩) h0).1] at hh)
  have hrk : Rise ((kids.drop 1).map (·.key)) := by
    refine List.pairwise_iff_getElem.2 fun i j hi hj hij => ?_
    simp at hi hj
    obtain ⟨z, zs, e1, e2⟩ := hkey (1 + i) kids[1 + i] its[1 + i] (by omega) (List.getElem?_eq_getElem (by omega)) (List.getElem?_eq_getElem (by omega))
    obtain ⟨z', zs', e1', e2'⟩ := hkey (1 + j) kids[1 + j] its[1 + j] (by omega) (List.getElem?_eq_getElem (by omega)) (List.getElem?_eq_getElem (by omega))
    have := r2 (1 + i) (1 + j) (by omega) (by omega) (by omega) z (by rw [e1]; exact List.mem_cons_self) z' (by rw [e1']; exact List.mem_cons_self)
    simp only [List.getElem_map, List.getElem_drop]
    rw [← e2, ← e2']
    exact this
  rw [visit_ok (n := ⟨false, [], kids⟩) (by omega) hn (hnr _ List.mem_cons_self) ?_]
  · have hnd' := List.nodup_cons.1 hnd
    have g := go_sub (l := l) (h := h) (d := d) (p := p) (n := ⟨false, [], kids⟩) (its := its) (rfs := rfs) h1 (by omega) (by omega) li lr (fun k x r hx hr' => by
        obtain ⟨hk, _⟩ := List.getElem?_eq_some_iff.1 hx
        have hk' : k < kids.length := by omega
        have := hs k _ x r (List.getElem?_eq_getElem hk') hx hr'
        have e : (kidM p ⟨false, [], kids⟩ k).ref = kids[k].ref := by simp [kidM, hk']
        rwa [e]) hne bk kids.length 0 ⟨w.items, w.refs ++ [p.ref], w.depth⟩ (by simp) (by simpa using hnd'.2) (fun r hr' hm => by
        rcases List.mem_append.1 hm with hm | hm
        · exact hnr r (List.mem_cons_of_mem _ (by simpa using hr')) hm
        · rw [List.mem_singleton] at hm
          subst hm
          exact hnd'.1 (by simpa using hr')) (by
        rcases hw with hw | hw
        · exact .inl hw
        · right
          show w.depth = p.deep + h
          omega)
    have h0 : ¬ kids.length = 0 := by omega
    simp only [Bool.false_eq_true, if_false, List.range_eq_range'] at g ⊢
    rw [g]
    simp [h0]
    omega
  · unfold formM
    have hk : ksM p none (keysM ⟨false, [], kids⟩) = true := ks_of (by simpa [keysM] using hrk) (fun x hx => by
      obtain ⟨kid, hkid, rfl⟩ := List.mem_map.1 (show x ∈ (kids.drop 1).map (·.key) by simpa [keysM] using hx)
      obtain ⟨i, hi, e⟩ := List.mem_iff_getElem.1 hkid
      rw [List.getElem_drop] at e
      simp at hi
      obtain ⟨z, zs, e1, e2⟩ := hkey (1 + i) kid its[1 + i] (by omega) (by rw [List.getElem?_eq_getElem (by omega), e]) (List.getElem?_eq_getElem (by omega))
      rw [← e2]
      exact hb z (List.mem_flatten.2 ⟨_, List.getElem_mem (show 1 + i < its.length by omega), by rw [e1]; exact List.mem_cons_self⟩)) (fun y hy => by cases hy)
    rw [hk]
    have : ¬ ((kids.length : Int) < 2) := by omega
    simp [this]
end Go.VI

/- VI, part TK: plain law of Made: level by level. -/
set_option linter.unusedVariables false
set_option linter.unusedSimpArgs false
namespace Go.VI

/-- A level: its places stand for parts of a tree. -/
structure Lv (l : List NamedM) (h : Nat) (kids : List KidM) (its : List (List ItemM)) (rfs : List (List Int)) : Prop where
  li : its.length = kids.length
  lr : rfs.length = kids.length
  sub : ∀ (k : Nat) (kid : KidM) (x : List ItemM) (r : List Int), kids[k]? = some kid → its[k]? = some x → rfs[k]? = some r → ∀ more, Sub (l ++ more) h kid.ref x r
  key : ∀ (k : Nat) (kid : KidM) (x : List ItemM), kids[k]? = some kid → its[k]? = some x → ∃ y ys, x = y :: ys ∧ y.key = kid.key
theorem Lv.nil (l : List NamedM) (h : Nat) : Lv l h [] [] [] := ⟨rfl, rfl, fun k kid x r hk => by simp at hk, fun k kid x hk => by simp at hk⟩
theorem snoc_get {α : Type} {l : List α} {a x : α} {k : Nat} (h : (l ++ [a])[k]? = some x) : (k < l.length ∧ l[k]? = some x) ∨ (k = l.length ∧ x = a) := by
  by_cases hk : k < l.length
  · rw [List.getElem?_append_left hk] at h
    exact .inl ⟨hk, h⟩
  · rw [List.getElem?_append_right (by omega)] at h
    have h0 : k - l.length = 0 := by
      rcases Nat.eq_zero_or_pos (k - l.length) with h0 | h0
      · exact h0
      · rw [List.getElem?_eq_none (by simp only [List.length_singleton]; omega)] at h; cases h
    rw [h0] at h
    cases h
    exact .inr ⟨by omega, rfl⟩
theorem Lv.snoc {l : List NamedM} {h : Nat} {kids : List KidM} {its : List (List ItemM)} {rfs : List (List Int)} (L : Lv l h kids its rfs) (nd : NamedM) {kid : KidM} {x : List ItemM} {r : List Int} (hs : ∀ more, Sub (l ++ [nd] ++ more) h kid.ref x r) (hk : ∃ y ys, x = y :: ys ∧ y.key = kid.key) :
    Lv (l ++ [nd]) h (kids ++ [kid]) (its ++ [x]) (rfs ++ [r]) := by
  refine ⟨by simp [L.li], by simp [L.lr], fun k kid' x' r' h1 h2 h3 more => ?_, fun k kid' x' h1 h2 => ?_⟩
  · rcases snoc_get h1 with ⟨a, b⟩ | ⟨a, b⟩
    · rcases snoc_get h2 with ⟨a2, b2⟩ | ⟨a2, b2⟩
      · rcases snoc_get h3 with ⟨a3, b3⟩ | ⟨a3, b3⟩
        · have := L.sub k kid' x' r' b b2 b3 ([nd] ++ more)
          rwa [← List.append_assoc] at this
        · have := L.lr; omega
      · have := L.li; omega
    · rcases snoc_get h2 with ⟨a2, b2⟩ | ⟨a2, b2⟩
      · have := L.li; omega
      · rcases snoc_get h3 with ⟨a3, b3⟩ | ⟨a3, b3⟩
        · have := L.lr; omega
        · subst b b2 b3
          exact hs more
  · rcases snoc_get h1 with ⟨a, b⟩ | ⟨a, b⟩
    · rcases snoc_get h2 with ⟨a2, b2⟩ | ⟨a2, b2⟩
      · exact L.key k kid' x' b b2
      · have := L.li; omega
    · rcases snoc_get h2 with ⟨a2, b2⟩ | ⟨a2, b2⟩
      · have := L.li; omega
      · subst b b2
        exact hk
theorem nodup_mid {A B : List Int} {x : Int} (hx : x ∉ A ++ B) (h : (A ++ B).Nodup) : (A ++ x :: B).Nodup := by
  obtain ⟨h1, h2, h3⟩ := List.nodup_append.1 h
  refine List.nodup_append.2 ⟨h1, List.nodup_cons.2 ⟨fun hb => hx (List.mem_append_right _ hb), h2⟩, fun a ha b hb => ?_⟩
  rcases List.mem_cons.1 hb with rfl | hb
  · exact fun e => hx (List.mem_append_left _ (e ▸ ha))
  · exact h3 a ha b hb
/-- What is kept of numbers. -/
structure Nm (l : List NamedM) (R : List Int) : Prop where
  nd : R.Nodup
  lt : ∀ r ∈ R, r < ((2 + l.length : Nat) : Int)
  cnt : R.length = l.length
theorem Nm.ins {l : List NamedM} {A B : List Int} (h : Nm l (A ++ B)) (nd : NamedM) : Nm (l ++ [nd]) (A ++ ((2 + l.length : Nat) : Int) :: B) := by
  have hn : ((2 + l.length : Nat) : Int) ∉ A ++ B := fun hm => by
    have := h.lt _ hm
    omega
  refine ⟨nodup_mid hn h.nd, fun r hr => ?_, ?_⟩
  · have : r = ((2 + l.length : Nat) : Int) ∨ r ∈ A ++ B := by
      rcases List.mem_append.1 hr with q | q
      · exact .inr (List.mem_append_left _ q)
      · rcases List.mem_cons.1 q with q | q
        · exact .inl q
        · exact .inr (List.mem_append_right _ q)
    simp only [List.length_append, List.length_singleton]
    rcases this with q | q
    · omega
    · have := h.lt r q
      omega
  · have := h.cnt
    simp only [List.length_append, List.length_cons, List.length_nil] at this ⊢
    omega
theorem cut_split {α : Type} (l : List α) {a b : Nat} (h : a ≤ b) : l.drop a = (l.drop a).take (b - a) ++ l.drop b := by
  have : l.drop b = (l.drop a).drop (b - a) := by rw [List.drop_drop, show a + (b - a) = b by omega]
  rw [this, List.take_append_drop]
theorem mid_rise {A B C : List ItemM} (h : RiseI (A ++ (B ++ C))) : RiseI B := (List.pairwise_append.1 (List.pairwise_append.1 h).2.1).1
theorem clear_get {g : List KidM} {k : Nat} {kid : KidM} (h : (clearK g)[k]? = some kid) : ∃ kid', g[k]? = some kid' ∧ kid'.ref = kid.ref ∧ (0 < k → kid' = kid) := by
  cases g with
  | nil => simp [clearK] at h
  | cons x g =>
    cases k with
    | zero => cases h; exact ⟨x, rfl, rfl, fun h => absurd h (by omega)⟩
    | succ k => exact ⟨kid, h, rfl, fun _ => rfl⟩
theorem clear_len (g : List KidM) : (clearK g).length = g.length := by cases g <;> rfl
theorem level_go {l : List NamedM} {h : Nat} {kids : List KidM} {its : List (List ItemM)} {rfs : List (List Int)} (L : Lv l h kids its rfs) {fan : Nat} (hf : 2 ≤ fan) (hr : RiseI its.flatten) : ∀ (d at_ : Nat) (acc : List NamedM) (kacc : List KidM) (ia : List (List ItemM)) (ra : List (List Int)),
    (at_ = kids.length ∨ at_ + 2 ≤ kids.length) → kids.length ≤ at_ + d → RL 2 (l ++ acc) → Lv (l ++ acc) (h + 1) kacc ia ra → ia.flatten ++ (its.drop at_).flatten = its.flatten → Nm (l ++ acc) (ra.flatten ++ (rfs.drop at_).flatten) →
    ∃ ia' ra', RL 2 (l ++ (acc ++ (levelM kids fan d at_ (2 + (l ++ acc).length)).1)) ∧ Lv (l ++ (acc ++ (levelM kids fan d at_ (2 + (l ++ acc).length)).1)) (h + 1) (kacc ++ (levelM kids fan d at_ (2 + (l ++ acc).length)).2) ia' ra' ∧ ia'.flatten = its.flatten ∧
      Nm (l ++ (acc ++ (levelM kids fan d at_ (2 + (l ++ acc).length)).1)) ra'.flatten
  | 0, at_, acc, kacc, ia, ra, ha, hd, hrl, hL, hi, hn => by
    rw [List.drop_eq_nil_of_le (by have := L.li; omega), List.flatten_nil, List.append_nil] at hi
    rw [List.drop_eq_nil_of_le (by have := L.lr; omega), List.flatten_nil, List.append_nil] at hn
    exact ⟨ia, ra, by simpa [levelM] using hrl, by simpa [levelM] using hL, hi, by simpa [levelM] using hn⟩
  | d + 1, at_, acc, kacc, ia, ra, ha, hd, hrl, hL, hi, hn => by
    have li := L.li
    have lr := L.lr
    by_cases hc : at_ < kids.length
    · have h2 : at_ + 2 ≤ kids.length := by omega
      rw [levelM, if_pos hc]
      obtain ⟨T, hT, t1, t2, t3⟩ : ∃ T, cutTo kids.length at_ fan = T ∧ at_ + 2 ≤ T ∧ T ≤ kids.length ∧ (T = kids.length ∨ T + 2 ≤ kids.length) := by
        refine ⟨_, rfl, ?_⟩
        unfold cutTo
        split <;> omega
      rw [hT]
      have s1 := cut_split kids (show at_ ≤ T by omega)
      have s2 := cut_split its (show at_ ≤ T by omega)
      have s3 := cut_split rfs (show at_ ≤ T by omega)
      have gk : ∀ k kid, ((kids.drop at_).take (T - at_))[k]? = some kid → kids[at_ + k]? = some kid := fun k kid hk => by
        rw [List.getElem?_take] at hk
        split at hk
        · rwa [List.getElem?_drop] at hk
        · cases hk
      have gi : ∀ k x, ((its.drop at_).take (T - at_))[k]? = some x → its[at_ + k]? = some x := fun k kid hk => by
        rw [List.getElem?_take] at hk
        split at hk
        · rwa [List.getElem?_drop] at hk
        · cases hk
      have gr : ∀ k r, ((rfs.drop at_).take (T - at_))[k]? = some r → rfs[at_ + k]? = some r := fun k kid hk => by
        rw [List.getElem?_take] at hk
        split at hk
        · rwa [List.getElem?_drop] at hk
        · cases hk
      have lg : ((kids.drop at_).take (T - at_)).length = T - at_ := by simp; omega
      have lgi : ((its.drop at_).take (T - at_)).length = T - at_ := by simp; omega
      have lgr : ((rfs.drop at_).take (T - at_)).length = T - at_ := by simp; omega
      rw [s2, List.flatten_append] at hi
      rw [s3, List.flatten_append] at hn
      have hrg : RiseI ((its.drop at_).take (T - at_)).flatten := by
        rw [← hi] at hr
        exact mid_rise hr
      generalize (kids.drop at_).take (T - at_) = g at *
      generalize (its.drop at_).take (T - at_) = ig at *
      generalize (rfs.drop at_).take (T - at_) = rg at *
      have hrl' : RL 2 (l ++ (acc ++ [brN g (2 + (l ++ acc).length : Nat)])) := by
        rw [← List.append_assoc]
        exact RL_snoc hrl rfl
      have hn' := hn.ins (brN g (2 + (l ++ acc).length : Nat))
      have hkey0 : ∃ y ys, ig.flatten = y :: ys ∧ y.key = (brK g (2 + (l ++ acc).length : Nat)).key := by
        obtain ⟨k0, gs, hg⟩ : ∃ k0 gs, g = k0 :: gs := by
          cases g with
          | nil => simp at lg; omega
          | cons a b => exact ⟨a, b, rfl⟩
        obtain ⟨i0, is, hig⟩ : ∃ i0 is, ig = i0 :: is := by
          cases ig with
          | nil => simp at lgi; omega
          | cons a b => exact ⟨a, b, rfl⟩
        obtain ⟨y, ys, e1, e2⟩ := L.key at_ k0 i0 (by have := gk 0 k0 (by rw [hg]; rfl); simpa using this) (by have := gi 0 i0 (by rw [hig]; rfl); simpa using this)
        exact ⟨y, ys ++ is.flatten, by rw [hig, e1]; rfl, by rw [e2, hg]; rfl⟩
      have hsub : ∀ more, Sub (l ++ acc ++ [brN g (2 + (l ++ acc).length : Nat)] ++ more) (h + 1) (brK g (2 + (l ++ acc).length : Nat)).ref ig.flatten (((2 + (l ++ acc).length : Nat) : Int) :: rg.flatten) := by
        intro more
        have hnode : nodeM (l ++ acc ++ [brN g (2 + (l ++ acc).length : Nat)] ++ more) ((2 + (l ++ acc).length : Nat) : Int) = (⟨false, [], clearK g⟩, 0) := by
          have hx : (l ++ acc ++ [brN g (2 + (l ++ acc).length : Nat)])[(l ++ acc).length]? = some (brN g (2 + (l ++ acc).length : Nat)) := by
            rw [List.getElem?_append_right (Nat.le_refl _)]
            simp
          have hq : RL 2 (l ++ acc ++ [brN g (2 + (l ++ acc).length : Nat)]) := RL_snoc hrl rfl
          exact node_RL hq hx more
        refine Sub_branch hnode (by rw [clear_len]; omega) (by rw [clear_len]; omega) (by rw [clear_len]; omega) (fun k kid x r h1 h2 h3 => ?_) (fun k kid x h0 h1 h2 => ?_) (fun x hx => ?_) hrg ?_
        · obtain ⟨kid', q1, q2, _⟩ := clear_get h1
          rw [← q2]
          have := L.sub (at_ + k) kid' x r (gk k kid' q1) (gi k x h2) (gr k r h3) (acc ++ [brN g (2 + (l ++ acc).length : Nat)] ++ more)
          simpa [List.append_assoc] using this
        · obtain ⟨kid', q1, _, q3⟩ := clear_get h1
          rw [q3 h0] at q1
          exact L.key (at_ + k) kid x (gk k kid q1) (gi k x h2)
        · obtain ⟨k, hk, e⟩ := List.mem_iff_getElem.1 hx
          have hx' := List.getElem?_eq_some_iff.2 ⟨hk, e⟩
          have hk' : k < g.length := by omega
          obtain ⟨y, ys, e1, _⟩ := L.key (at_ + k) g[k] x (gk k _ (List.getElem?_eq_getElem hk')) (gi k x hx')
          rw [e1]
          simp
        · have q := (List.nodup_append.1 hn'.nd).2.1
          rw [← List.cons_append] at q
          exact (List.nodup_append.1 q).1
      have ih := level_go L hf hr d T (acc ++ [brN g (2 + (l ++ acc).length : Nat)]) (kacc ++ [brK g (2 + (l ++ acc).length : Nat)]) (ia ++ [ig.flatten]) (ra ++ [((2 + (l ++ acc).length : Nat) : Int) :: rg.flatten]) t3 (by omega) hrl' (by
          rw [← List.append_assoc]
          exact hL.snoc _ hsub hkey0) (by rw [← hi]; simp) (by
          have e : (ra ++ [((2 + (l ++ acc).length : Nat) : Int) :: rg.flatten]).flatten ++ (rfs.drop T).flatten = ra.flatten ++ ((2 + (l ++ acc).length : Nat) : Int) :: (rg.flatten ++ (rfs.drop T).flatten) := by simp
          rw [e, ← List.append_assoc]
          exact hn')
      have en : 2 + (l ++ (acc ++ [brN g (2 + (l ++ acc).length : Nat)])).length = 2 + (l ++ acc).length + 1 := by simp; omega
      rw [en] at ih
      simpa [List.append_assoc] using ih
    · rw [levelM, if_neg hc]
      rw [List.drop_eq_nil_of_le (by omega), List.flatten_nil, List.append_nil] at hi
      rw [List.drop_eq_nil_of_le (by omega), List.flatten_nil, List.append_nil] at hn
      exact ⟨ia, ra, by simpa using hrl, by simpa using hL, hi, by simpa using hn⟩
end Go.VI

/- VI, part TL: law TreeMade. -/
set_option linter.unusedVariables false
set_option linter.unusedSimpArgs false
set_option maxRecDepth 100000
namespace Go.VI
attribute [local congr] AW_congr OW_congr DW_congr NW_congr VW_congr GW_congr PW_congr KW_congr ite_congr' GV_congr CV_congr

theorem up_go {fan : Nat} (hf : 2 ≤ fan) : ∀ (F m : Nat) (kids : List KidM) (l : List NamedM) (its : List (List ItemM)) (rfs : List (List Int)) (h : Nat), kids.length ≤ F + 1 → 0 < kids.length → kids.length ≤ 2 ^ m → Lv l h kids its rfs → RL 2 l → RiseI its.flatten → Nm l rfs.flatten →
    ∃ e refs, e ≤ m ∧ Sub (l ++ (upM fan F kids (2 + l.length)).1) (h + e) (upM fan F kids (2 + l.length)).2 its.flatten refs ∧ refs.length = (l ++ (upM fan F kids (2 + l.length)).1).length := by
  have one : ∀ (m : Nat) (kids : List KidM) (l : List NamedM) (its : List (List ItemM)) (rfs : List (List Int)) (h : Nat), kids.length = 1 → Lv l h kids its rfs → Nm l rfs.flatten →
      ∃ e refs, e ≤ m ∧ Sub (l ++ []) (h + e) ((kids[0]?.map (·.ref)).getD 0) its.flatten refs ∧ refs.length = (l ++ []).length := by
    intro m kids l its rfs h hk L hn
    have li := L.li
    have lr := L.lr
    match kids, its, rfs, hk, li, lr with
    | [k], [x], [r], _, _, _ =>
      refine ⟨0, r, Nat.zero_le _, ?_, ?_⟩
      · have := L.sub 0 k x r rfl rfl rfl []
        simpa using this
      · have := hn.cnt
        simpa using this
  intro F
  induction F with
  | zero =>
    intro m kids l its rfs h hF h0 hm L hrl hr hn
    exact one m kids l its rfs h (by omega) L hn
  | succ F ih =>
    intro m kids l its rfs h hF h0 hm L hrl hr hn
    rw [upM]
    by_cases hk : 1 < kids.length
    · rw [if_pos hk]
      obtain ⟨g1, g2, g3⟩ := level_len kids fan hf kids.length 0 (2 + l.length) (by omega) (by omega)
      have g3 := g3 (by omega)
      obtain ⟨ia, ra, q1, q2, q3, q4⟩ := level_go L hf hr kids.length 0 [] [] [] [] (by omega) (by omega) (by simpa using hrl) (by simpa using Lv.nil l (h + 1)) (by simp) (by simpa using hn)
      simp only [List.append_nil, List.nil_append] at q1 q2 q4
      obtain ⟨m, rfl⟩ : ∃ k, m = k + 1 := by
        cases m with
        | zero => simp at hm; omega
        | succ k => exact ⟨k, rfl⟩
      have h2 : 2 ^ (m + 1) = 2 * 2 ^ m := by rw [Nat.pow_succ]; omega
      obtain ⟨e, refs, e1, e2, e3⟩ := ih m (levelM kids fan kids.length 0 (2 + l.length)).2 (l ++ (levelM kids fan kids.length 0 (2 + l.length)).1) ia ra (h + 1) (by omega) g3 (by omega) q2 q1 (by rw [q3]; exact hr) q4
      rw [q3] at e2
      have en : 2 + (l ++ (levelM kids fan kids.length 0 (2 + l.length)).1).length = 2 + l.length + (levelM kids fan kids.length 0 (2 + l.length)).1.length := by simp; omega
      rw [en] at e2 e3
      refine ⟨e + 1, refs, by omega, ?_, ?_⟩
      · have eh : h + (e + 1) = h + 1 + e := by omega
        rw [eh, ← List.append_assoc]
        exact e2
      · rw [← List.append_assoc]
        exact e3
    · rw [if_neg hk]
      exact one m kids l its rfs h (by omega) L hn
theorem leaves_go (items : List ItemM) (many : Nat) (hm : 1 ≤ many) (h0 : 0 < items.length) (hr : RiseI items) : ∀ (d at_ : Nat) (acc : List NamedM) (kacc : List KidM) (ia : List (List ItemM)) (ra : List (List Int)), items.length + 1 ≤ at_ + d → RL 2 acc → Lv acc 1 kacc ia ra → ia.flatten = items.take at_ → Nm acc ra.flatten →
    ∃ ia' ra', RL 2 (acc ++ (leavesM items many d at_ (2 + acc.length)).1) ∧ Lv (acc ++ (leavesM items many d at_ (2 + acc.length)).1) 1 (kacc ++ (leavesM items many d at_ (2 + acc.length)).2) ia' ra' ∧ ia'.flatten = items ∧ Nm (acc ++ (leavesM items many d at_ (2 + acc.length)).1) ra'.flatten
  | 0, at_, acc, kacc, ia, ra, hd, hrl, hL, hi, hn => by
    rw [List.take_of_length_le (by omega)] at hi
    exact ⟨ia, ra, by simpa [leavesM] using hrl, by simpa [leavesM] using hL, hi, by simpa [leavesM] using hn⟩
  | d + 1, at_, acc, kacc, ia, ra, hd, hrl, hL, hi, hn => by
    rw [leavesM]
    by_cases hc : at_ < items.length ∨ at_ = 0
    · have ha : at_ < items.length := by omega
      rw [if_pos hc]
      have hsplit : items.take at_ ++ (items.drop at_).take many = items.take (at_ + many) := by rw [List.take_add]
      have hrc : RiseI ((items.drop at_).take many) := by
        have e : items = items.take at_ ++ ((items.drop at_).take many ++ (items.drop at_).drop many) := by rw [List.take_append_drop, List.take_append_drop]
        rw [e] at hr
        exact mid_rise hr
      have hc0 : ∃ y ys, (items.drop at_).take many = y :: ys := by
        refine ⟨items[at_], (items.drop (at_ + 1)).take (many - 1), ?_⟩
        rw [List.drop_eq_getElem_cons ha, show many = (many - 1) + 1 by omega, List.take_succ_cons]
        simp
      generalize (items.drop at_).take many = c at *
      obtain ⟨y, ys, rfl⟩ := hc0
      have hx : (acc ++ [leafN (y :: ys) (2 + acc.length : Nat)])[acc.length]? = some (leafN (y :: ys) (2 + acc.length : Nat)) := by
        rw [List.getElem?_append_right (Nat.le_refl _)]
        simp
      have hq : RL 2 (acc ++ [leafN (y :: ys) (2 + acc.length : Nat)]) := RL_snoc hrl rfl
      have hn' := Nm.ins (l := acc) (A := ra.flatten) (B := []) (by simpa using hn) (leafN (y :: ys) (2 + acc.length : Nat))
      have ih := leaves_go items many hm h0 hr d (at_ + many) (acc ++ [leafN (y :: ys) (2 + acc.length : Nat)]) (kacc ++ [leafK (y :: ys) (2 + acc.length : Nat)]) (ia ++ [y :: ys]) (ra ++ [[((2 + acc.length : Nat) : Int)]]) (by omega) hq
        (hL.snoc _ (fun more => Sub_leaf (node_RL hq hx more) hrc) ⟨y, ys, rfl, rfl⟩) (by rw [List.flatten_append, hi]; simpa using hsplit) (by simpa using hn')
      have en : 2 + (acc ++ [leafN (y :: ys) (2 + acc.length : Nat)]).length = 2 + acc.length + 1 := by simp; omega
      rw [en] at ih
      simpa [List.append_assoc] using ih
    · rw [if_neg hc]
      rw [List.take_of_length_le (by omega)] at hi
      exact ⟨ia, ra, by simpa using hrl, by simpa using hL, hi, by simpa using hn⟩
theorem made_all (items : List ItemM) (hi : items.length ≤ 60) (many fan : Nat) (hm : 1 ≤ many) (hf : 2 ≤ fan) (hr : RiseI items) :
    (allM (madeM items many fan).1 (madeM items many fan).2).2 = 0 ∧ (allM (madeM items many fan).1 (madeM items many fan).2).1.items = items ∧ (allM (madeM items many fan).1 (madeM items many fan).2).1.refs.length = (madeM items many fan).1.length := by
  have key : ∀ (l : List NamedM) (root : Int) (h : Nat) (refs : List Int), h ≤ 12 → Sub l h root items refs → refs.length = l.length → (allM l root).2 = 0 ∧ (allM l root).1.items = items ∧ (allM l root).1.refs.length = l.length := fun l root h refs h1 h2 h3 => by
    have := h2 12 (root0 root) w0 rfl (Int.le_refl _) rfl h1 (.inl rfl) (fun x _ => by simp [bndM, root0]) (fun r _ hm => by cases hm) (.inl rfl)
    have e : allM l root = ((visitM l 12 (root0 root) w0).2, 0) := by unfold allM; rw [if_neg (by rw [this]; simp)]
    rw [e, this]
    exact ⟨rfl, by simp [w0], by simpa [w0] using h3⟩
  cases items with
  | nil =>
    have e : madeM [] many fan = ([leafN [] 2], 2) := by
      simp [madeM, leavesM, upM, leafK, leafN]
    rw [e]
    refine key _ _ 1 [2] (by omega) ?_ rfl
    exact Sub_leaf (by rfl) List.Pairwise.nil
  | cons x xs =>
    obtain ⟨ia, ra, q1, q2, q3, q4⟩ := leaves_go (x :: xs) many hm (by simp) hr ((x :: xs).length + 1) 0 [] [] [] [] (by omega) (fun i y h => by simp at h) (Lv.nil [] 1) rfl ⟨List.nodup_nil, (by intro r hr; cases hr), rfl⟩
    simp only [List.nil_append, List.length_nil, Nat.add_zero] at q1 q2 q4
    obtain ⟨g1, g2, g3⟩ := leaves_len (x :: xs) many hm ((x :: xs).length + 1) 0 2
    have g3 := g3 (by omega) rfl
    obtain ⟨e, refs, e1, e2, e3⟩ := up_go hf 100 6 _ _ ia ra 1 (by omega) (by omega) (by simp only [Nat.reducePow]; omega) q2 q1 (by rw [q3]; exact hr) q4
    rw [q3] at e2
    exact key _ _ (1 + e) refs (by omega) e2 e3
/-! ### what is made is right -/
theorem okI_sub {l m : List ItemM} (h : okI l) (hs : ∀ x ∈ m, x ∈ l) (hl : m.length ≤ l.length) : okI m := ⟨Nat.lt_of_le_of_lt hl h.n, fun x hx => h.h x (hs x hx)⟩
theorem leaves_ok (items : List ItemM) (h : okI items) (many : Nat) : ∀ (d at_ next : Nat), (∀ x ∈ (leavesM items many d at_ next).1, okN x.n) ∧ ∀ k ∈ (leavesM items many d at_ next).2, okB k.key
  | 0, at_, next => by simp [leavesM]
  | d + 1, at_, next => by
    rw [leavesM]
    obtain ⟨g1, g2⟩ := leaves_ok items h many d (at_ + many) (next + 1)
    have hc : okI ((items.drop at_).take many) := okI_sub h (fun x hx => List.mem_of_mem_drop (List.mem_of_mem_take hx)) (by simp; omega)
    split
    · refine ⟨fun x hx => ?_, fun k hk => ?_⟩
      · rcases List.mem_cons.1 hx with rfl | hx
        · exact ⟨hc, ⟨(by show 0 < MX; decide), fun _ h => by cases h⟩⟩
        · exact g1 x hx
      · rcases List.mem_cons.1 hk with rfl | hk
        · show okB (((((items.drop at_).take many)[0]?).map (·.key)).getD [])
          cases e : ((items.drop at_).take many)[0]? with
          | none => exact ok_nil
          | some y => exact (hc.h y (List.mem_of_getElem? e)).k
        · exact g2 k hk
    · simp
theorem level_ok (kids : List KidM) (hn : kids.length ≤ 1000) (h : ∀ k ∈ kids, okB k.key) (fan : Nat) : ∀ (d at_ next : Nat), (∀ x ∈ (levelM kids fan d at_ next).1, okN x.n) ∧ ∀ k ∈ (levelM kids fan d at_ next).2, okB k.key
  | 0, at_, next => by simp [levelM]
  | d + 1, at_, next => by
    rw [levelM]
    obtain ⟨g1, g2⟩ := level_ok kids hn h fan d (cutTo kids.length at_ fan) (next + 1)
    have hc : ∀ k ∈ (kids.drop at_).take (cutTo kids.length at_ fan - at_), okB k.key := fun k hk => h k (List.mem_of_mem_drop (List.mem_of_mem_take hk))
    have hl : ((kids.drop at_).take (cutTo kids.length at_ fan - at_)).length ≤ 1000 := by simp; omega
    split
    · refine ⟨fun x hx => ?_, fun k hk => ?_⟩
      · rcases List.mem_cons.1 hx with rfl | hx
        · refine ⟨⟨(by show 0 < MX; decide), fun _ h => by cases h⟩, ⟨?_, fun k hk => ?_⟩⟩
          · show (clearK _).length < MX
            rw [clear_len]
            unfold MX
            omega
          · have hk : k ∈ clearK ((kids.drop at_).take (cutTo kids.length at_ fan - at_)) := hk
            generalize (kids.drop at_).take (cutTo kids.length at_ fan - at_) = g at *
            cases g with
            | nil => cases hk
            | cons a g =>
              rcases List.mem_cons.1 hk with rfl | hk
              · exact ok_nil
              · exact hc k (List.mem_cons_of_mem _ hk)
        · exact g1 x hx
      · rcases List.mem_cons.1 hk with rfl | hk
        · show okB (((((kids.drop at_).take (cutTo kids.length at_ fan - at_))[0]?).map (·.key)).getD [])
          cases e : ((kids.drop at_).take (cutTo kids.length at_ fan - at_))[0]? with
          | none => exact ok_nil
          | some y => exact hc y (List.mem_of_getElem? e)
        · exact g2 k hk
    · simp
theorem up_ok (fan : Nat) (hf : 2 ≤ fan) : ∀ (F : Nat) (kids : List KidM) (next : Nat), kids.length ≤ 1000 → (∀ k ∈ kids, okB k.key) → (∀ x ∈ (upM fan F kids next).1, okN x.n) ∧ (upM fan F kids next).1.length ≤ F * 1000
  | 0, kids, next, _, _ => by simp [upM]
  | F + 1, kids, next, hn, h => by
    rw [upM]
    split
    · obtain ⟨g1, g2⟩ := level_ok kids hn h fan kids.length 0 next
      obtain ⟨a1, a2, a3⟩ := level_len kids fan hf kids.length 0 next (by omega) (by omega)
      obtain ⟨h1, h2⟩ := up_ok fan hf F (levelM kids fan kids.length 0 next).2 (next + (levelM kids fan kids.length 0 next).1.length) (by omega) g2
      refine ⟨fun x hx => ?_, ?_⟩
      · rcases List.mem_append.1 hx with hx | hx
        · exact g1 x hx
        · exact h1 x hx
      · simp only [List.length_append]
        omega
    · simp
theorem made_ok (items : List ItemM) (h : okI items) (hi : items.length ≤ 60) (many fan : Nat) (hm : 1 ≤ many) (hf : 2 ≤ fan) : okL (madeM items many fan).1 := by
  obtain ⟨g1, g2⟩ := leaves_ok items h many (items.length + 1) 0 2
  obtain ⟨a1, a2, _⟩ := leaves_len items many hm (items.length + 1) 0 2
  obtain ⟨h1, h2⟩ := up_ok fan hf 100 (leavesM items many (items.length + 1) 0 2).2 (2 + (leavesM items many (items.length + 1) 0 2).1.length) (by omega) g2
  refine ⟨?_, fun x hx => ?_⟩
  · show (_ ++ _ : List NamedM).length < MX
    rw [List.length_append]
    unfold MX
    omega
  · rcases List.mem_append.1 hx with hx | hx
    · exact g1 x hx
    · exact h1 x hx
end Go.VI

/- VI, part TM: law TreeMade, walked. -/
set_option linter.unusedVariables false
set_option linter.unusedSimpArgs false
set_option maxRecDepth 100000
namespace Go.VI
attribute [local congr] AW_congr OW_congr DW_congr NW_congr VW_congr GW_congr PW_congr KW_congr ite_congr' GV_congr CV_congr

theorem risI_rise : ∀ {l : List ItemM}, risI l = true → RiseI l
  | [], _ => List.Pairwise.nil
  | x :: l, h => List.pairwise_cons.2 ⟨fun y hy => by
      obtain ⟨i, hi, rfl⟩ := List.mem_iff_getElem.1 hy
      exact risI_head h i hi, risI_rise (risI_tail h)⟩
theorem x15 {items : List ItemM} (h : okI items) {K : Heap} {L : List Blk} {Q : AV → Heap → Prop} : KW ft (.fn (.func 15) [] []) [.agg [.sc (.bool false), encI items, .sc (.slice none 0 0)]] (hx K L) Q ↔ Q (boolA (risI items)) (hx K L) := by
  have hn : okN ⟨false, items, []⟩ := ⟨h, ⟨(by show 0 < MX; decide), fun _ h => by cases h⟩⟩
  have e : risN ⟨false, items, []⟩ = risI items := by simp [risN, risK]
  rw [← e]
  exact KW_of ((callL_frz (bs := [.agg (nodeC ⟨false, items, []⟩)]) rfl rfl).trans (s15 _ hn _))
theorem k26g {items : List ItemM} (hi : items.length ≤ 60) {many fan : Nat} (hm : 1 ≤ many ∧ many ≤ 20) (hf : 2 ≤ fan ∧ fan ≤ 20) {K : Heap} {L : List Blk} {Q : AV → Heap → Prop} :
    KW ft (.fn (.func 26) [] []) [encI items, int many, int fan] (hx K L) Q ↔ Q (.tup [encL (madeM items many fan).1, int (madeM items many fan).2]) (hx K L) := KW_of (s26g items hi many fan hm hf _)
theorem l6 (items : List ItemM) (hi : okI items) (h60 : items.length ≤ 60) (l : List NamedM) (hl : okL l) (ht : tinyL l) (root : Int) (w : WM) (hw : w.items = items) (hg : ∀ x ∈ items, getM l root x.key = (x, true, 0)) {Q : AExit → Env → Heap → Prop}
   (hex : ∀ f' K, Q (.exit 0) (mkE 125 f') (hx K [])) :
   ∀ (d i : Nat) (K : Heap) (f : Nat → AV), i + d = items.length → K.get 0 = some (.box false (wholeC w)) →
    f 0 = encI items → f 7 = encL l → f 8 = int root → f 9 = .ptr 0 0 0 → f 78 = int items.length → f 79 = int i →
    AW ft (.loop c6L0) (mkE 125 f) (hx K []) Q := by
  intro d
  induction d with
  | zero =>
    intro i K f hd g0 q0 q7 q8 q9 q78 q79
    have g : ((i : Int) < items.length) = False := eq_false (by omega)
    rw [AW_loop]
    unfold c6L0
    simp only [↓vp, vq0, vq1, vq2, vq3, vr0, vr1, vr2, vr3, vr4, vr5, vr6, vr7, vr8, vr9, vr10, vr11, vr12, vr13, vr14, vr15, vr16, vr17, vr18, vr19, vr20, vr21, vr22, vr23, vr24, vr25, vr26, vr27, vr28, vr29, vr30, vr31, vr32, vr33, vr34, opS, fpS, okP, pack, nAl, allocA, shId, leaves, fillA, fillR, splice, Nat.reduceLT, Nat.reduceEqDiff, Nat.reduceLeDiff, Nat.reduceAdd, Nat.reduceSub, Nat.reduceMul, Int.reduceBEq, Int.reduceBNe, Int.reduceLT, Int.reduceLE, Int.reduceEq, reduceIte, reduceCtorEq, da, int, boolA, q78, q79, g]
    exact hex _ _
  | succ d ih =>
    intro i K f hd g0 q0 q7 q8 q9 q78 q79
    have g : ((i : Int) < items.length) = True := eq_true (by omega)
    have gi : i < items.length := by omega
    have w1 := wrap_succ (show i < 9223372036854775807 by omega)
    have hx_ := hi.at_ gi
    have hxk := hx_.k
    have hgi := hg _ (List.getElem_mem gi)
    have x24 := fun K L Q => k24 hl ht (root := root) hxk (K := K) (L := L) (Q := Q)
    rw [hgi] at x24
    have p17 : pureV ft (.fn (.func 17) [] []) [encL l] = true := rfl
    have p24 : pureV ft (.fn (.func 24) [] []) [srcF l, .sc (.int .i64 root), encB items[i].key] = true := rfl
    have a0 : (wholeC w).take 1 = [encI items] := by rw [← hw]; rfl
    have al : (wholeC w).length = 3 := rfl
    have o0 := get_old g0
    have l0 := Heap.get_lt g0
    simp only [int, boolA] at x24
    rw [AW_loop]
    unfold c6L0
    simp only [↓vp, vq0, vq1, vq2, vq3, vr0, vr1, vr2, vr3, vr4, vr5, vr6, vr7, vr8, vr9, vr10, vr11, vr12, vr13, vr14, vr15, vr16, vr17, vr18, vr19, vr20, vr21, vr22, vr23, vr24, vr25, vr26, vr27, vr28, vr29, vr30, vr31, vr32, vr33, vr34, opS, fpS, okP, pack, nAl, allocA, shId, leaves, fillA, fillR, splice, Nat.reduceLT, Nat.reduceEqDiff, Nat.reduceLeDiff, Nat.reduceAdd, Nat.reduceSub, Nat.reduceMul, Int.reduceBEq, Int.reduceBNe, Int.reduceLT, Int.reduceLE, Int.reduceEq, reduceIte, reduceCtorEq, da, int, boolA, q0, q7, q8, q9, q78, q79, g, atI gi, cI gi, k17, x24, p17, p24, o0, a0, al, k23, hx_, sameI_refl, w1, bne_self_eq_false]
    refine ⟨rfl, ?_⟩
    rw [← hx_nil (hx K _)]
    refine ih (i + 1) _ _ (by omega) (get_old g0 _) ?_ ?_ ?_ ?_ ?_ ?_ <;> simp only [↓vp, vq0, vq1, vq2, vq3, vr0, vr1, vr2, vr3, vr4, vr5, vr6, vr7, vr8, vr9, vr10, vr11, vr12, vr13, vr14, vr15, vr16, vr17, vr18, vr19, vr20, vr21, vr22, vr23, vr24, vr25, vr26, vr27, vr28, vr29, vr30, vr31, vr32, vr33, vr34, opS, fpS, okP, pack, nAl, allocA, shId, leaves, fillA, fillR, splice, Nat.reduceLT, Nat.reduceEqDiff, Nat.reduceLeDiff, Nat.reduceAdd, Nat.reduceSub, Nat.reduceMul, Int.reduceBEq, Int.reduceBNe, Int.reduceLT, Int.reduceLE, Int.reduceEq, reduceIte, reduceCtorEq, da, int, boolA, q0, q7, q8, q9, q78]
theorem s6 (items : List ItemM) (hi : okI items) (many fan : Int) (H : Heap) : callL ft (.fn (.func 6) [] []) [encI items, int many, int fan] H = some (boolA true, H) := by
  refine call_p (as' := [encI items, int many, int fan]) rfl rfl (by simp) ?_
  have ha' := fun K L Q => alive14 K L Q
  unfold c6 r6
  cases e1 : decide ((60 : Int) < items.length) with
  | true => simp only [↓vp, vq0, vq1, vq2, vq3, vr0, vr1, vr2, vr3, vr4, vr5, vr6, vr7, vr8, vr9, vr10, vr11, vr12, vr13, vr14, vr15, vr16, vr17, vr18, vr19, vr20, vr21, vr22, vr23, vr24, vr25, vr26, vr27, vr28, vr29, vr30, vr31, vr32, vr33, vr34, opS, fpS, okP, pack, nAl, allocA, shId, leaves, fillA, fillR, splice, Nat.reduceLT, Nat.reduceEqDiff, Nat.reduceLeDiff, Nat.reduceAdd, Nat.reduceSub, Nat.reduceMul, Int.reduceBEq, Int.reduceBNe, Int.reduceLT, Int.reduceLE, Int.reduceEq, reduceIte, reduceCtorEq, da, int, boolA, RetP_go, resT, resC, resN, retV1, retV2, retV3, retV0, frzFZ, takeM, Option.some.injEq, e1, ha' _ _ _]
  | false =>
  cases e2 : decide (many < 1) with
  | true => simp only [↓vp, vq0, vq1, vq2, vq3, vr0, vr1, vr2, vr3, vr4, vr5, vr6, vr7, vr8, vr9, vr10, vr11, vr12, vr13, vr14, vr15, vr16, vr17, vr18, vr19, vr20, vr21, vr22, vr23, vr24, vr25, vr26, vr27, vr28, vr29, vr30, vr31, vr32, vr33, vr34, opS, fpS, okP, pack, nAl, allocA, shId, leaves, fillA, fillR, splice, Nat.reduceLT, Nat.reduceEqDiff, Nat.reduceLeDiff, Nat.reduceAdd, Nat.reduceSub, Nat.reduceMul, Int.reduceBEq, Int.reduceBNe, Int.reduceLT, Int.reduceLE, Int.reduceEq, reduceIte, reduceCtorEq, da, int, boolA, RetP_go, resT, resC, resN, retV1, retV2, retV3, retV0, frzFZ, takeM, Option.some.injEq, e1, e2, ha' _ _ _]
  | false =>
  cases e3 : decide ((20 : Int) < many) with
  | true => simp only [↓vp, vq0, vq1, vq2, vq3, vr0, vr1, vr2, vr3, vr4, vr5, vr6, vr7, vr8, vr9, vr10, vr11, vr12, vr13, vr14, vr15, vr16, vr17, vr18, vr19, vr20, vr21, vr22, vr23, vr24, vr25, vr26, vr27, vr28, vr29, vr30, vr31, vr32, vr33, vr34, opS, fpS, okP, pack, nAl, allocA, shId, leaves, fillA, fillR, splice, Nat.reduceLT, Nat.reduceEqDiff, Nat.reduceLeDiff, Nat.reduceAdd, Nat.reduceSub, Nat.reduceMul, Int.reduceBEq, Int.reduceBNe, Int.reduceLT, Int.reduceLE, Int.reduceEq, reduceIte, reduceCtorEq, da, int, boolA, RetP_go, resT, resC, resN, retV1, retV2, retV3, retV0, frzFZ, takeM, Option.some.injEq, e1, e2, e3, ha' _ _ _]
  | false =>
  cases e4 : decide (fan < 2) with
  | true => simp only [↓vp, vq0, vq1, vq2, vq3, vr0, vr1, vr2, vr3, vr4, vr5, vr6, vr7, vr8, vr9, vr10, vr11, vr12, vr13, vr14, vr15, vr16, vr17, vr18, vr19, vr20, vr21, vr22, vr23, vr24, vr25, vr26, vr27, vr28, vr29, vr30, vr31, vr32, vr33, vr34, opS, fpS, okP, pack, nAl, allocA, shId, leaves, fillA, fillR, splice, Nat.reduceLT, Nat.reduceEqDiff, Nat.reduceLeDiff, Nat.reduceAdd, Nat.reduceSub, Nat.reduceMul, Int.reduceBEq, Int.reduceBNe, Int.reduceLT, Int.reduceLE, Int.reduceEq, reduceIte, reduceCtorEq, da, int, boolA, RetP_go, resT, resC, resN, retV1, retV2, retV3, retV0, frzFZ, takeM, Option.some.injEq, e1, e2, e3, e4, ha' _ _ _]
  | false =>
  cases e5 : decide ((20 : Int) < fan) with
  | true => simp only [↓vp, vq0, vq1, vq2, vq3, vr0, vr1, vr2, vr3, vr4, vr5, vr6, vr7, vr8, vr9, vr10, vr11, vr12, vr13, vr14, vr15, vr16, vr17, vr18, vr19, vr20, vr21, vr22, vr23, vr24, vr25, vr26, vr27, vr28, vr29, vr30, vr31, vr32, vr33, vr34, opS, fpS, okP, pack, nAl, allocA, shId, leaves, fillA, fillR, splice, Nat.reduceLT, Nat.reduceEqDiff, Nat.reduceLeDiff, Nat.reduceAdd, Nat.reduceSub, Nat.reduceMul, Int.reduceBEq, Int.reduceBNe, Int.reduceLT, Int.reduceLE, Int.reduceEq, reduceIte, reduceCtorEq, da, int, boolA, RetP_go, resT, resC, resN, retV1, retV2, retV3, retV0, frzFZ, takeM, Option.some.injEq, e1, e2, e3, e4, e5, ha' _ _ _]
  | false =>
  cases e6 : risI items with
  | false => simp only [↓vp, vq0, vq1, vq2, vq3, vr0, vr1, vr2, vr3, vr4, vr5, vr6, vr7, vr8, vr9, vr10, vr11, vr12, vr13, vr14, vr15, vr16, vr17, vr18, vr19, vr20, vr21, vr22, vr23, vr24, vr25, vr26, vr27, vr28, vr29, vr30, vr31, vr32, vr33, vr34, opS, fpS, okP, pack, nAl, allocA, shId, leaves, fillA, fillR, splice, Nat.reduceLT, Nat.reduceEqDiff, Nat.reduceLeDiff, Nat.reduceAdd, Nat.reduceSub, Nat.reduceMul, Int.reduceBEq, Int.reduceBNe, Int.reduceLT, Int.reduceLE, Int.reduceEq, reduceIte, reduceCtorEq, da, int, boolA, RetP_go, resT, resC, resN, retV1, retV2, retV3, retV0, frzFZ, takeM, Option.some.injEq, e1, e2, e3, e4, e5, e6, x15, hi, ha' _ _ _]
  | true =>
    have h1 := of_decide_eq_false e1
    have h2 := of_decide_eq_false e2
    have h3 := of_decide_eq_false e3
    have h4 := of_decide_eq_false e4
    have h5 := of_decide_eq_false e5
    obtain ⟨m, rfl⟩ : ∃ m : Nat, many = m := ⟨many.toNat, by omega⟩
    obtain ⟨n, rfl⟩ : ∃ n : Nat, fan = n := ⟨fan.toNat, by omega⟩
    have h60 : items.length ≤ 60 := by omega
    have hm : 1 ≤ m ∧ m ≤ 20 := by omega
    have hf : 2 ≤ n ∧ n ≤ 20 := by omega
    have x26' := fun K L Q => k26g h60 hm hf (K := K) (L := L) (Q := Q)
    obtain ⟨a1, a2, a3⟩ := made_all items h60 m n hm.1 hf.1 (risI_rise e6)
    have hl := made_ok items hi h60 m n hm.1 hf.1
    generalize madeM items m n = M at *
    obtain ⟨l, root⟩ := M
    simp only at a1 a2 a3 hl
    simp only [int] at x26'
    cases e7 : fewM l with
    | false => simp only [↓vp, vq0, vq1, vq2, vq3, vr0, vr1, vr2, vr3, vr4, vr5, vr6, vr7, vr8, vr9, vr10, vr11, vr12, vr13, vr14, vr15, vr16, vr17, vr18, vr19, vr20, vr21, vr22, vr23, vr24, vr25, vr26, vr27, vr28, vr29, vr30, vr31, vr32, vr33, vr34, opS, fpS, okP, pack, nAl, allocA, shId, leaves, fillA, fillR, splice, Nat.reduceLT, Nat.reduceEqDiff, Nat.reduceLeDiff, Nat.reduceAdd, Nat.reduceSub, Nat.reduceMul, Int.reduceBEq, Int.reduceBNe, Int.reduceLT, Int.reduceLE, Int.reduceEq, reduceIte, reduceCtorEq, da, int, boolA, RetP_go, resT, resC, resN, retV1, retV2, retV3, retV0, frzFZ, takeM, Option.some.injEq, e1, e2, e3, e4, e5, e6, x15, hi, x26', k13, hl, e7, ha' _ _ _]
    | true =>
      have ht := few_tiny hl e7
      have hlen := few_len e7
      have x21 := fun K L Q => k21 hl ht hlen (root := root) (K := K) (L := L) (Q := Q)
      have hown := fun x (hx : x ∈ (allM l root).1.items) => get_own a1 (x := x) hx
      rw [a2] at hown
      generalize allM l root = A at *
      obtain ⟨w, no⟩ := A
      simp only at a1 a2 a3
      subst a1
      have b0 : (wholeC w).take 1 = [encI items] := by rw [← a2]; rfl
      have b1 : ((wholeC w).drop 1).take 1 = [encN w.refs] := rfl
      have al : (wholeC w).length = 3 := rfl
      have ao : oneAll (wholeC w) = true := rfl
      have ad : (wholeC w).drop 3 = [] := rfl
      have hr' : (w.refs.length : Int) = (l.length : Int) := by omega
      simp only [int, boolA] at x21
      simp only [↓vp, vq0, vq1, vq2, vq3, vr0, vr1, vr2, vr3, vr4, vr5, vr6, vr7, vr8, vr9, vr10, vr11, vr12, vr13, vr14, vr15, vr16, vr17, vr18, vr19, vr20, vr21, vr22, vr23, vr24, vr25, vr26, vr27, vr28, vr29, vr30, vr31, vr32, vr33, vr34, opS, fpS, okP, pack, nAl, allocA, shId, leaves, fillA, fillR, splice, Nat.reduceLT, Nat.reduceEqDiff, Nat.reduceLeDiff, Nat.reduceAdd, Nat.reduceSub, Nat.reduceMul, Int.reduceBEq, Int.reduceBNe, Int.reduceLT, Int.reduceLE, Int.reduceEq, reduceIte, reduceCtorEq, da, int, boolA, e1, e2, e3, e4, e5, e6, x15, hi, x26', k13, hl, e7, k17, x21, b0, b1, al, ao, ad, lenN, hr', bne_self_eq_false]
      rw [← hx_nil (hx _ _)]
      refine l6 items hi h60 l hl ht root w a2 hown (fun f' K => ?_) items.length 0 _ _ (by simp) rfl ?_ ?_ ?_ ?_ ?_ ?_
      · unfold c6R1
        simp only [↓vp, vq0, vq1, vq2, vq3, vr0, vr1, vr2, vr3, vr4, vr5, vr6, vr7, vr8, vr9, vr10, vr11, vr12, vr13, vr14, vr15, vr16, vr17, vr18, vr19, vr20, vr21, vr22, vr23, vr24, vr25, vr26, vr27, vr28, vr29, vr30, vr31, vr32, vr33, vr34, opS, fpS, okP, pack, nAl, allocA, shId, leaves, fillA, fillR, splice, Nat.reduceLT, Nat.reduceEqDiff, Nat.reduceLeDiff, Nat.reduceAdd, Nat.reduceSub, Nat.reduceMul, Int.reduceBEq, Int.reduceBNe, Int.reduceLT, Int.reduceLE, Int.reduceEq, reduceIte, reduceCtorEq, da, int, boolA, RetP_go, resT, resC, resN, retV1, retV2, retV3, retV0, frzFZ, takeM, Option.some.injEq, ha' _ _ _]
      all_goals first | rfl | (simp only [↓vp, vq0, vq1, vq2, vq3, vr0, vr1, vr2, vr3, vr4, vr5, vr6, vr7, vr8, vr9, vr10, vr11, vr12, vr13, vr14, vr15, vr16, vr17, vr18, vr19, vr20, vr21, vr22, vr23, vr24, vr25, vr26, vr27, vr28, vr29, vr30, vr31, vr32, vr33, vr34, opS, fpS, okP, pack, nAl, allocA, shId, leaves, fillA, fillR, splice, Nat.reduceLT, Nat.reduceEqDiff, Nat.reduceLeDiff, Nat.reduceAdd, Nat.reduceSub, Nat.reduceMul, Int.reduceBEq, Int.reduceBNe, Int.reduceLT, Int.reduceLE, Int.reduceEq, reduceIte, reduceCtorEq, da, int, boolA]; done)
end Go.VI

