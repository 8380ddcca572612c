/- VI, part SN: law TreePaths, walked. -/
import Derived.Test.YtkjeigdiojdfnaaSM
set_option linter.unusedVariables false
set_option linter.unusedSimpArgs false
set_option maxRecDepth 100000
namespace Go.VI
attribute [local congr] AW_congr OW_congr DW_congr NW_congr VW_congr GW_congr PW_congr KW_congr ite_congr' GV_congr CV_congr

theorem k13 {l : List NamedM} (hl : okL l) {K : Heap} {L : List Blk} {Q : AV → Heap → Prop} : KW ft (.fn (.func 13) [] []) [encL l] (hx K L) Q ↔ Q (boolA (fewM l)) (hx K L) := KW_of (s13 l hl _)
theorem k15 {n : NodeM} (hn : okN n) {K : Heap} {L : List Blk} {Q : AV → Heap → Prop} : KW ft (.fn (.func 15) [] []) [.agg (nodeC n)] (hx K L) Q ↔ Q (boolA (risN n)) (hx K L) := KW_of (s15 n hn _)
theorem k19 {l : List NamedM} (hl : okL l) (ht : tinyL l) {root : Int} {last : Bool} {K : Heap} {L : List Blk} {Q : AV → Heap → Prop} :
    KW ft (.fn (.func 19) [] []) [srcF l, int root, boolA last] (hx K L) Q ↔ Q (.tup [encS (wayM (edgeK last) l root).1, int (wayM (edgeK last) l root).2]) (hx K L) := KW_of (s19 l hl ht root last _)
theorem k20 {a b : List StepM} (ha : okS a) (hb : okS b) (hi : a.length ≤ 12) {K : Heap} {L : List Blk} {Q : AV → Heap → Prop} :
    KW ft (.fn (.func 20) [] []) [encS a, encS b] (hx K L) Q ↔ Q (boolA (stepsM a b)) (hx K L) := KW_of (s20 a b ha hb hi _)
/-- alive() tells true. -/
def Alive (k : FuncId) : Prop := ∀ (K : Heap) (L : List Blk) (Q : AV → Heap → Prop), KW ft (.fn (.func k) [] []) [] (hx K L) Q ↔ Q (boolA true) (hx K L)

def good3 (n : NodeM) : Bool := risN n && !(n.leaf && decide ((0 : Int) < n.kids.length)) && !(!n.leaf && decide ((0 : Int) < n.items.length))
theorem l3 (ha : Alive 14) (l : List NamedM) (hl : okL l) (root : Int) (key : Bytes) {Q : AExit → Env → Heap → Prop}
   (hex : ∀ f' K, (∀ x ∈ l, good3 x.n = true) → f' 0 = encL l → f' 1 = int root → f' 2 = encB key → Q (.exit 0) (mkE 139 f') (hx K []))
   (hret : ∀ f' K L, f' 6 = boolA true → Q .ret (mkE 139 f') (hx K L)) :
   ∀ (d i : Nat) (f : Nat → AV) (K : Heap), i + d = l.length → (∀ x ∈ l.take i, good3 x.n = true) → f 0 = encL l → f 1 = int root → f 2 = encB key → f 30 = encL l → f 31 = int l.length → f 32 = int i →
    AW ft (.loop c3L0) (mkE 139 f) (hx K []) Q := by
  intro d
  have hi := hl.n
  unfold MX at hi
  induction d with
  | zero =>
    intro i f K hd hg h0 h1 h2 h30 h31 h32
    have g : ((i : Int) < l.length) = False := eq_false (by omega)
    rw [AW_loop]
    unfold c3L0
    rw [List.take_of_length_le (by omega)] at hg
    simp only [↓vp, vq0, vq1, vq2, vq3, vr0, vr1, vr2, vr3, vr4, vr5, vr6, vr7, vr8, vr9, vr10, vr11, vr12, vr13, vr14, vr15, vr16, vr17, vr18, vr19, vr20, vr21, vr22, vr23, vr24, vr25, vr26, vr27, vr28, vr29, vr30, vr31, vr32, vr33, vr34, opS, fpS, okP, pack, nAl, allocA, shId, leaves, fillA, fillR, splice, Nat.reduceLT, Nat.reduceEqDiff, Nat.reduceLeDiff, Nat.reduceAdd, Nat.reduceSub, Nat.reduceMul, Int.reduceBEq, Int.reduceBNe, Int.reduceLT, Int.reduceLE, Int.reduceEq, reduceIte, reduceCtorEq, da, int, boolA, h31, h32, g]
    refine hex _ _ hg ?_ ?_ ?_ <;> simp only [↓vp, vq0, vq1, vq2, vq3, vr0, vr1, vr2, vr3, vr4, vr5, vr6, vr7, vr8, vr9, vr10, vr11, vr12, vr13, vr14, vr15, vr16, vr17, vr18, vr19, vr20, vr21, vr22, vr23, vr24, vr25, vr26, vr27, vr28, vr29, vr30, vr31, vr32, vr33, vr34, opS, fpS, okP, pack, nAl, allocA, shId, leaves, fillA, fillR, splice, Nat.reduceLT, Nat.reduceEqDiff, Nat.reduceLeDiff, Nat.reduceAdd, Nat.reduceSub, Nat.reduceMul, Int.reduceBEq, Int.reduceBNe, Int.reduceLT, Int.reduceLE, Int.reduceEq, reduceIte, reduceCtorEq, da, int, boolA, h0, h1, h2]
  | succ d ih =>
    intro i f K hd hg h0 h1 h2 h30 h31 h32
    have g : ((i : Int) < l.length) = True := eq_true (by omega)
    have gi : i < l.length := by omega
    have o1 := hl.at_ gi
    have w1 := wrap_succ (show i < 9223372036854775807 by omega)
    have fin : good3 l[i].n = true → ∀ x ∈ l.take (i + 1), good3 x.n = true := fun h x hx => by
      rw [List.take_succ_eq_append_getElem gi] at hx
      rcases List.mem_append.1 hx with hx | hx
      · exact hg x hx
      · rw [List.mem_singleton] at hx
        rw [hx]; exact h
    have ha' := fun K L Q => ha K L Q
    rw [AW_loop]
    unfold c3L0
    cases e1 : risN l[i].n with
    | false =>
      simp only [↓vp, vq0, vq1, vq2, vq3, vr0, vr1, vr2, vr3, vr4, vr5, vr6, vr7, vr8, vr9, vr10, vr11, vr12, vr13, vr14, vr15, vr16, vr17, vr18, vr19, vr20, vr21, vr22, vr23, vr24, vr25, vr26, vr27, vr28, vr29, vr30, vr31, vr32, vr33, vr34, opS, fpS, okP, pack, nAl, allocA, shId, leaves, fillA, fillR, splice, Nat.reduceLT, Nat.reduceEqDiff, Nat.reduceLeDiff, Nat.reduceAdd, Nat.reduceSub, Nat.reduceMul, Int.reduceBEq, Int.reduceBNe, Int.reduceLT, Int.reduceLE, Int.reduceEq, reduceIte, reduceCtorEq, da, int, boolA, h0, h1, h2, h30, h31, h32, g, atL gi, cL gi, k15, o1, e1, ha' _ _ _]
      refine hret _ _ _ ?_
      simp only [↓vp, vq0, vq1, vq2, vq3, vr0, vr1, vr2, vr3, vr4, vr5, vr6, vr7, vr8, vr9, vr10, vr11, vr12, vr13, vr14, vr15, vr16, vr17, vr18, vr19, vr20, vr21, vr22, vr23, vr24, vr25, vr26, vr27, vr28, vr29, vr30, vr31, vr32, vr33, vr34, opS, fpS, okP, pack, nAl, allocA, shId, leaves, fillA, fillR, splice, Nat.reduceLT, Nat.reduceEqDiff, Nat.reduceLeDiff, Nat.reduceAdd, Nat.reduceSub, Nat.reduceMul, Int.reduceBEq, Int.reduceBNe, Int.reduceLT, Int.reduceLE, Int.reduceEq, reduceIte, reduceCtorEq, da, int, boolA]
    | true =>
      cases e2 : l[i].n.leaf with
      | true =>
        cases e3 : decide ((0 : Int) < l[i].n.kids.length) with
        | true =>
          simp only [↓vp, vq0, vq1, vq2, vq3, vr0, vr1, vr2, vr3, vr4, vr5, vr6, vr7, vr8, vr9, vr10, vr11, vr12, vr13, vr14, vr15, vr16, vr17, vr18, vr19, vr20, vr21, vr22, vr23, vr24, vr25, vr26, vr27, vr28, vr29, vr30, vr31, vr32, vr33, vr34, opS, fpS, okP, pack, nAl, allocA, shId, leaves, fillA, fillR, splice, Nat.reduceLT, Nat.reduceEqDiff, Nat.reduceLeDiff, Nat.reduceAdd, Nat.reduceSub, Nat.reduceMul, Int.reduceBEq, Int.reduceBNe, Int.reduceLT, Int.reduceLE, Int.reduceEq, reduceIte, reduceCtorEq, da, int, boolA, h0, h1, h2, h30, h31, h32, g, atL gi, cL gi, k15, o1, e1, e2, e3, ha' _ _ _]
          refine hret _ _ _ ?_
          simp only [↓vp, vq0, vq1, vq2, vq3, vr0, vr1, vr2, vr3, vr4, vr5, vr6, vr7, vr8, vr9, vr10, vr11, vr12, vr13, vr14, vr15, vr16, vr17, vr18, vr19, vr20, vr21, vr22, vr23, vr24, vr25, vr26, vr27, vr28, vr29, vr30, vr31, vr32, vr33, vr34, opS, fpS, okP, pack, nAl, allocA, shId, leaves, fillA, fillR, splice, Nat.reduceLT, Nat.reduceEqDiff, Nat.reduceLeDiff, Nat.reduceAdd, Nat.reduceSub, Nat.reduceMul, Int.reduceBEq, Int.reduceBNe, Int.reduceLT, Int.reduceLE, Int.reduceEq, reduceIte, reduceCtorEq, da, int, boolA]
        | false =>
          simp only [↓vp, vq0, vq1, vq2, vq3, vr0, vr1, vr2, vr3, vr4, vr5, vr6, vr7, vr8, vr9, vr10, vr11, vr12, vr13, vr14, vr15, vr16, vr17, vr18, vr19, vr20, vr21, vr22, vr23, vr24, vr25, vr26, vr27, vr28, vr29, vr30, vr31, vr32, vr33, vr34, opS, fpS, okP, pack, nAl, allocA, shId, leaves, fillA, fillR, splice, Nat.reduceLT, Nat.reduceEqDiff, Nat.reduceLeDiff, Nat.reduceAdd, Nat.reduceSub, Nat.reduceMul, Int.reduceBEq, Int.reduceBNe, Int.reduceLT, Int.reduceLE, Int.reduceEq, reduceIte, reduceCtorEq, da, int, boolA, h0, h1, h2, h30, h31, h32, g, atL gi, cL gi, k15, o1, e1, e2, e3, ha' _ _ _, w1]
          rw [← hx_nil (hx _ _)]
          refine ih (i + 1) _ _ (by omega) (fin (by simp [good3, e1, e2]; simpa using e3)) ?_ ?_ ?_ ?_ ?_ ?_ <;> simp only [↓vp, vq0, vq1, vq2, vq3, vr0, vr1, vr2, vr3, vr4, vr5, vr6, vr7, vr8, vr9, vr10, vr11, vr12, vr13, vr14, vr15, vr16, vr17, vr18, vr19, vr20, vr21, vr22, vr23, vr24, vr25, vr26, vr27, vr28, vr29, vr30, vr31, vr32, vr33, vr34, opS, fpS, okP, pack, nAl, allocA, shId, leaves, fillA, fillR, splice, Nat.reduceLT, Nat.reduceEqDiff, Nat.reduceLeDiff, Nat.reduceAdd, Nat.reduceSub, Nat.reduceMul, Int.reduceBEq, Int.reduceBNe, Int.reduceLT, Int.reduceLE, Int.reduceEq, reduceIte, reduceCtorEq, da, int, boolA, h0, h1, h2, h30, h31]
      | false =>
        cases e3 : decide ((0 : Int) < l[i].n.items.length) with
        | true =>
          simp only [↓vp, vq0, vq1, vq2, vq3, vr0, vr1, vr2, vr3, vr4, vr5, vr6, vr7, vr8, vr9, vr10, vr11, vr12, vr13, vr14, vr15, vr16, vr17, vr18, vr19, vr20, vr21, vr22, vr23, vr24, vr25, vr26, vr27, vr28, vr29, vr30, vr31, vr32, vr33, vr34, opS, fpS, okP, pack, nAl, allocA, shId, leaves, fillA, fillR, splice, Nat.reduceLT, Nat.reduceEqDiff, Nat.reduceLeDiff, Nat.reduceAdd, Nat.reduceSub, Nat.reduceMul, Int.reduceBEq, Int.reduceBNe, Int.reduceLT, Int.reduceLE, Int.reduceEq, reduceIte, reduceCtorEq, da, int, boolA, h0, h1, h2, h30, h31, h32, g, atL gi, cL gi, k15, o1, e1, e2, e3, ha' _ _ _]
          refine hret _ _ _ ?_
          simp only [↓vp, vq0, vq1, vq2, vq3, vr0, vr1, vr2, vr3, vr4, vr5, vr6, vr7, vr8, vr9, vr10, vr11, vr12, vr13, vr14, vr15, vr16, vr17, vr18, vr19, vr20, vr21, vr22, vr23, vr24, vr25, vr26, vr27, vr28, vr29, vr30, vr31, vr32, vr33, vr34, opS, fpS, okP, pack, nAl, allocA, shId, leaves, fillA, fillR, splice, Nat.reduceLT, Nat.reduceEqDiff, Nat.reduceLeDiff, Nat.reduceAdd, Nat.reduceSub, Nat.reduceMul, Int.reduceBEq, Int.reduceBNe, Int.reduceLT, Int.reduceLE, Int.reduceEq, reduceIte, reduceCtorEq, da, int, boolA]
        | false =>
          simp only [↓vp, vq0, vq1, vq2, vq3, vr0, vr1, vr2, vr3, vr4, vr5, vr6, vr7, vr8, vr9, vr10, vr11, vr12, vr13, vr14, vr15, vr16, vr17, vr18, vr19, vr20, vr21, vr22, vr23, vr24, vr25, vr26, vr27, vr28, vr29, vr30, vr31, vr32, vr33, vr34, opS, fpS, okP, pack, nAl, allocA, shId, leaves, fillA, fillR, splice, Nat.reduceLT, Nat.reduceEqDiff, Nat.reduceLeDiff, Nat.reduceAdd, Nat.reduceSub, Nat.reduceMul, Int.reduceBEq, Int.reduceBNe, Int.reduceLT, Int.reduceLE, Int.reduceEq, reduceIte, reduceCtorEq, da, int, boolA, h0, h1, h2, h30, h31, h32, g, atL gi, cL gi, k15, o1, e1, e2, e3, ha' _ _ _, w1]
          rw [← hx_nil (hx _ _)]
          refine ih (i + 1) _ _ (by omega) (fin (by simp [good3, e1, e2]; simpa using e3)) ?_ ?_ ?_ ?_ ?_ ?_ <;> simp only [↓vp, vq0, vq1, vq2, vq3, vr0, vr1, vr2, vr3, vr4, vr5, vr6, vr7, vr8, vr9, vr10, vr11, vr12, vr13, vr14, vr15, vr16, vr17, vr18, vr19, vr20, vr21, vr22, vr23, vr24, vr25, vr26, vr27, vr28, vr29, vr30, vr31, vr32, vr33, vr34, opS, fpS, okP, pack, nAl, allocA, shId, leaves, fillA, fillR, splice, Nat.reduceLT, Nat.reduceEqDiff, Nat.reduceLeDiff, Nat.reduceAdd, Nat.reduceSub, Nat.reduceMul, Int.reduceBEq, Int.reduceBNe, Int.reduceLT, Int.reduceLE, Int.reduceEq, reduceIte, reduceCtorEq, da, int, boolA, h0, h1, h2, h30, h31]

theorem callL_frz {ft : FT} {k : FuncId} {n : Nat} {rs : List ARes} {body : ACode} {as bs : List AV} {H : Heap} (hk : ft k = some (.go true n rs body)) (h : frzCells H as = frzCells H bs) :
    callL ft (.fn (.func k) [] []) as H = callL ft (.fn (.func k) [] []) bs H := by
  rw [callL_fn, callL_fn]
  simp only [List.nil_append, List.append_nil]
  unfold callF
  simp only [hk, h]
theorem k18a {l : List NamedM} (hl : okL l) (ht : tinyL l) {key : Bytes} (hk : okB key) {ref : Int} {K : Heap} {L : List Blk} {Q : AV → Heap → Prop} :
    KW ft (.fn (.func 18) [] []) [encL l, int ref, int 0, encB key, int 12] (hx K L) Q ↔ Q (.tup [encS (refM (refK 0 key) l 12 ref).1, int (refM (refK 0 key) l 12 ref).2]) (hx K L) :=
  KW_of (s18a l hl ht key hk 12 (Nat.le_refl _) ref _)
theorem ok_nil : okB [] := ⟨by decide, rfl⟩
theorem k18b {l : List NamedM} (hl : okL l) (ht : tinyL l) {ref : Int} {K : Heap} {L : List Blk} {Q : AV → Heap → Prop} :
    KW ft (.fn (.func 18) [] []) [encL l, int ref, int 1, .sc (.slice none 0 0), int 12] (hx K L) Q ↔ Q (.tup [encS (refM (refK 1 []) l 12 ref).1, int (refM (refK 1 []) l 12 ref).2]) (hx K L) :=
  KW_of ((callL_frz (bs := [encL l, int ref, int 1, encB [], int 12]) rfl rfl).trans (s18b l hl ht [] ok_nil 12 (Nat.le_refl _) ref _))
theorem k18c {l : List NamedM} (hl : okL l) (ht : tinyL l) {ref : Int} {K : Heap} {L : List Blk} {Q : AV → Heap → Prop} :
    KW ft (.fn (.func 18) [] []) [encL l, int ref, int 2, .sc (.slice none 0 0), int 12] (hx K L) Q ↔ Q (.tup [encS (refM (refK 2 []) l 12 ref).1, int (refM (refK 2 []) l 12 ref).2]) (hx K L) :=
  KW_of ((callL_frz (bs := [encL l, int ref, int 2, encB [], int 12]) rfl rfl).trans (s18c l hl ht [] ok_nil 12 (Nat.le_refl _) ref _))
theorem wayM_ok (kf : NodeM → Int) {l : List NamedM} (hl : okL l) (ht : tinyL l) (root : Int) : okS (wayM kf l root).1 := (wayM_spec kf l hl ht root).1
theorem wayM_len (kf : NodeM → Int) {l : List NamedM} (hl : okL l) (ht : tinyL l) (root : Int) : (wayM kf l root).1.length ≤ 12 := (wayM_spec kf l hl ht root).2.2.2
theorem ways {l : List NamedM} (hg : ∀ x ∈ l, good3 x.n = true) (root : Int) (key : Bytes) :
    refM (refK 0 key) l 12 root = wayM (pathK key) l root ∧ refM (refK 1 []) l 12 root = wayM (edgeK false) l root ∧ refM (refK 2 []) l 12 root = wayM (edgeK true) l root := by
  refine ⟨?_, ?_, ?_⟩ <;> rw [wayM_refM] <;> refine refM_congr l (fun x hx h => ?_) 12 root
  · have := hg x hx
    simp only [good3, risN, Bool.and_eq_true] at this
    exact (path_ref _ _ this.1.1.1).symm
  · exact (edge_first _ _).symm
  · exact (edge_last _ _ h).symm
theorem s3 (ha : Alive 14) (l : List NamedM) (hl : okL l) (root : Int) (key : Bytes) (hk : okB key) (H : Heap) : callL ft (.fn (.func 3) [] []) [encL l, int root, encB key] H = some (boolA true, H) := by
  refine call_p (as' := [encL l, int root, encB key]) rfl rfl (by simp) ?_
  have ha' := fun K L Q => ha K L Q
  unfold c3 r3
  cases e1 : fewM l with
  | false => simp only [↓vp, vq0, vq1, vq2, vq3, vr0, vr1, vr2, vr3, vr4, vr5, vr6, vr7, vr8, vr9, vr10, vr11, vr12, vr13, vr14, vr15, vr16, vr17, vr18, vr19, vr20, vr21, vr22, vr23, vr24, vr25, vr26, vr27, vr28, vr29, vr30, vr31, vr32, vr33, vr34, opS, fpS, okP, pack, nAl, allocA, shId, leaves, fillA, fillR, splice, Nat.reduceLT, Nat.reduceEqDiff, Nat.reduceLeDiff, Nat.reduceAdd, Nat.reduceSub, Nat.reduceMul, Int.reduceBEq, Int.reduceBNe, Int.reduceLT, Int.reduceLE, Int.reduceEq, reduceIte, reduceCtorEq, da, int, boolA, RetP_go, resT, resC, resN, retV1, retV2, retV3, retV0, frzFZ, takeM, Option.some.injEq, k13, hl, e1, ha' _ _ _]
  | true =>
    have ht := few_tiny hl e1
    cases e2 : decide ((100 : Int) < key.length) with
    | true => simp only [↓vp, vq0, vq1, vq2, vq3, vr0, vr1, vr2, vr3, vr4, vr5, vr6, vr7, vr8, vr9, vr10, vr11, vr12, vr13, vr14, vr15, vr16, vr17, vr18, vr19, vr20, vr21, vr22, vr23, vr24, vr25, vr26, vr27, vr28, vr29, vr30, vr31, vr32, vr33, vr34, opS, fpS, okP, pack, nAl, allocA, shId, leaves, fillA, fillR, splice, Nat.reduceLT, Nat.reduceEqDiff, Nat.reduceLeDiff, Nat.reduceAdd, Nat.reduceSub, Nat.reduceMul, Int.reduceBEq, Int.reduceBNe, Int.reduceLT, Int.reduceLE, Int.reduceEq, reduceIte, reduceCtorEq, da, int, boolA, RetP_go, resT, resC, resN, retV1, retV2, retV3, retV0, frzFZ, takeM, Option.some.injEq, k13, hl, e1, e2, ha' _ _ _]
    | false =>
      simp only [↓vp, vq0, vq1, vq2, vq3, vr0, vr1, vr2, vr3, vr4, vr5, vr6, vr7, vr8, vr9, vr10, vr11, vr12, vr13, vr14, vr15, vr16, vr17, vr18, vr19, vr20, vr21, vr22, vr23, vr24, vr25, vr26, vr27, vr28, vr29, vr30, vr31, vr32, vr33, vr34, opS, fpS, okP, pack, nAl, allocA, shId, leaves, fillA, fillR, splice, Nat.reduceLT, Nat.reduceEqDiff, Nat.reduceLeDiff, Nat.reduceAdd, Nat.reduceSub, Nat.reduceMul, Int.reduceBEq, Int.reduceBNe, Int.reduceLT, Int.reduceLE, Int.reduceEq, reduceIte, reduceCtorEq, da, int, boolA, k13, hl, e1, e2]
      refine l3 ha l hl root key (fun f' K hg h0 h1 h2 => ?_) (fun f' K L h6 => ?_) l.length 0 _ _ (by simp) (by simp) ?_ ?_ ?_ ?_ ?_ ?_
      · obtain ⟨q1, q2, q3⟩ := ways hg root key
        have a1 := wayM_ok (pathK key) hl ht root
        have a2 := wayM_ok (edgeK false) hl ht root
        have a3 := wayM_ok (edgeK true) hl ht root
        have b1 := wayM_len (pathK key) hl ht root
        have b2 := wayM_len (edgeK false) hl ht root
        have b3 := wayM_len (edgeK true) hl ht root
        have x16 := fun K L Q => k16 hl ht (root := root) hk (K := K) (L := L) (Q := Q)
        have x19a := fun K L Q => k19 hl ht (root := root) (last := false) (K := K) (L := L) (Q := Q)
        have x19b := fun K L Q => k19 hl ht (root := root) (last := true) (K := K) (L := L) (Q := Q)
        have x18a := fun K L Q => k18a hl ht (ref := root) hk (K := K) (L := L) (Q := Q)
        have x18b := fun K L Q => k18b hl ht (ref := root) (K := K) (L := L) (Q := Q)
        have x18c := fun K L Q => k18c hl ht (ref := root) (K := K) (L := L) (Q := Q)
        rw [q1] at x18a
        rw [q2] at x18b
        rw [q3] at x18c
        generalize wayM (pathK key) l root = p1 at *
        generalize wayM (edgeK false) l root = p2 at *
        generalize wayM (edgeK true) l root = p3 at *
        simp only [int, boolA] at x16 x18a x18b x18c x19a x19b
        unfold c3R1
        simp only [↓vp, vq0, vq1, vq2, vq3, vr0, vr1, vr2, vr3, vr4, vr5, vr6, vr7, vr8, vr9, vr10, vr11, vr12, vr13, vr14, vr15, vr16, vr17, vr18, vr19, vr20, vr21, vr22, vr23, vr24, vr25, vr26, vr27, vr28, vr29, vr30, vr31, vr32, vr33, vr34, opS, fpS, okP, pack, nAl, allocA, shId, leaves, fillA, fillR, splice, Nat.reduceLT, Nat.reduceEqDiff, Nat.reduceLeDiff, Nat.reduceAdd, Nat.reduceSub, Nat.reduceMul, Int.reduceBEq, Int.reduceBNe, Int.reduceLT, Int.reduceLE, Int.reduceEq, reduceIte, reduceCtorEq, da, int, boolA, RetP_go, resT, resC, resN, retV1, retV2, retV3, retV0, frzFZ, takeM, Option.some.injEq, h0, h1, h2, k17, x16, x19a, x19b, x18a, x18b, x18c, ha' _ _ _, k20, a1, a2, a3, b1, b2, b3, stepsM_refl]
      · simp only [↓vp, vq0, vq1, vq2, vq3, vr0, vr1, vr2, vr3, vr4, vr5, vr6, vr7, vr8, vr9, vr10, vr11, vr12, vr13, vr14, vr15, vr16, vr17, vr18, vr19, vr20, vr21, vr22, vr23, vr24, vr25, vr26, vr27, vr28, vr29, vr30, vr31, vr32, vr33, vr34, opS, fpS, okP, pack, nAl, allocA, shId, leaves, fillA, fillR, splice, Nat.reduceLT, Nat.reduceEqDiff, Nat.reduceLeDiff, Nat.reduceAdd, Nat.reduceSub, Nat.reduceMul, Int.reduceBEq, Int.reduceBNe, Int.reduceLT, Int.reduceLE, Int.reduceEq, reduceIte, reduceCtorEq, da, int, boolA, RetP_go, resT, resC, resN, retV1, retV2, retV3, retV0, frzFZ, takeM, Option.some.injEq, h6]
      all_goals first | rfl | (simp only [↓vp, vq0, vq1, vq2, vq3, vr0, vr1, vr2, vr3, vr4, vr5, vr6, vr7, vr8, vr9, vr10, vr11, vr12, vr13, vr14, vr15, vr16, vr17, vr18, vr19, vr20, vr21, vr22, vr23, vr24, vr25, vr26, vr27, vr28, vr29, vr30, vr31, vr32, vr33, vr34, opS, fpS, okP, pack, nAl, allocA, shId, leaves, fillA, fillR, splice, Nat.reduceLT, Nat.reduceEqDiff, Nat.reduceLeDiff, Nat.reduceAdd, Nat.reduceSub, Nat.reduceMul, Int.reduceBEq, Int.reduceBNe, Int.reduceLT, Int.reduceLE, Int.reduceEq, reduceIte, reduceCtorEq, da, int, boolA]; done)
end Go.VI
