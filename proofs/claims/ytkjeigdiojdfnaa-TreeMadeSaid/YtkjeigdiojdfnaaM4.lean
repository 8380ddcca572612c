import Derived.Test.YtkjeigdiojdfnaaM3
/- VI, part SA: what data look like; Compare. -/
set_option linter.unusedVariables false
set_option linter.unusedSimpArgs false
set_option maxRecDepth 100000
namespace Go.VI
attribute [local congr] AW_congr OW_congr DW_congr NW_congr VW_congr GW_congr PW_congr KW_congr ite_congr' GV_congr CV_congr

/-! ### data -/
abbrev Bytes := List Int
structure ItemM where
  key : Bytes
  value : Bytes
  size : Int
  ref : Int
structure KidM where
  key : Bytes
  ref : Int
structure NodeM where
  leaf : Bool
  items : List ItemM
  kids : List KidM
structure NamedM where
  ref : Int
  n : NodeM
structure StepM where
  ref : Int
  n : NodeM
  k : Int
def MX : Nat := 140737488355328
def int (n : Int) : AV := .sc (.int .i64 n)
def boolA (b : Bool) : AV := .sc (.bool b)
def byteC (n : Int) : List AV := [.sc (.int .u8 n)]
def encB (l : Bytes) : AV := .lst (l.map byteC)
def itemC (x : ItemM) : List AV := [encB x.key, encB x.value, int x.size, int x.ref]
def encI (l : List ItemM) : AV := .lst (l.map itemC)
def kidC (x : KidM) : List AV := [encB x.key, int x.ref]
def encK (l : List KidM) : AV := .lst (l.map kidC)
def nodeC (n : NodeM) : List AV := [boolA n.leaf, encI n.items, encK n.kids]
def namedC (x : NamedM) : List AV := int x.ref :: nodeC x.n
def encL (l : List NamedM) : AV := .lst (l.map namedC)
def stepC (x : StepM) : List AV := [int x.ref, boolA x.n.leaf, encI x.n.items, encK x.n.kids, int x.k]
def encS (l : List StepM) : AV := .lst (l.map stepC)

section
variable {H : Heap} {K : Heap} {L : List Blk}
theorem len_byteC (n : Int) : (byteC n).length = 1 := rfl
theorem len_itemC (x : ItemM) : (itemC x).length = 4 := rfl
theorem len_kidC (x : KidM) : (kidC x).length = 2 := rfl
theorem len_namedC (x : NamedM) : (namedC x).length = 4 := rfl
theorem len_stepC (x : StepM) : (stepC x).length = 5 := rfl
theorem lenB (l : Bytes) : lenV H 0 (encB l) = some (.sc (.int .i64 (l.length : Int)), H) := by simp [lenV, lenOfA, encB]
theorem lenI (l : List ItemM) : lenV H 0 (encI l) = some (.sc (.int .i64 (l.length : Int)), H) := by simp [lenV, lenOfA, encI]
theorem lenK (l : List KidM) : lenV H 0 (encK l) = some (.sc (.int .i64 (l.length : Int)), H) := by simp [lenV, lenOfA, encK]
theorem lenL (l : List NamedM) : lenV H 0 (encL l) = some (.sc (.int .i64 (l.length : Int)), H) := by simp [lenV, lenOfA, encL]
theorem lenS (l : List StepM) : lenV H 0 (encS l) = some (.sc (.int .i64 (l.length : Int)), H) := by simp [lenV, lenOfA, encS]
theorem atB {l : Bytes} {i : Nat} (h : i < l.length) : iaddrA H none 1 (encB l) (i : Int) = some (.pim (l.map byteC) i 0) := iaddr_map h len_byteC
theorem atI {l : List ItemM} {i : Nat} (h : i < l.length) : iaddrA H none 4 (encI l) (i : Int) = some (.pim (l.map itemC) i 0) := iaddr_map h len_itemC
theorem atK {l : List KidM} {i : Nat} (h : i < l.length) : iaddrA H none 2 (encK l) (i : Int) = some (.pim (l.map kidC) i 0) := iaddr_map h len_kidC
theorem atL {l : List NamedM} {i : Nat} (h : i < l.length) : iaddrA H none 4 (encL l) (i : Int) = some (.pim (l.map namedC) i 0) := iaddr_map h len_namedC
theorem atS {l : List StepM} {i : Nat} (h : i < l.length) : iaddrA H none 5 (encS l) (i : Int) = some (.pim (l.map stepC) i 0) := iaddr_map h len_stepC
theorem cB {l : Bytes} {i off n : Nat} (h : i < l.length) : cellsAt H (.pim (l.map byteC) i off) n = if off + n ≤ 1 then some (((byteC l[i]).drop off).take n) else none := cells_map h
theorem cI {l : List ItemM} {i off n : Nat} (h : i < l.length) : cellsAt H (.pim (l.map itemC) i off) n = if off + n ≤ 4 then some (((itemC l[i]).drop off).take n) else none := cells_map h
theorem cK {l : List KidM} {i off n : Nat} (h : i < l.length) : cellsAt H (.pim (l.map kidC) i off) n = if off + n ≤ 2 then some (((kidC l[i]).drop off).take n) else none := cells_map h
theorem cL {l : List NamedM} {i off n : Nat} (h : i < l.length) : cellsAt H (.pim (l.map namedC) i off) n = if off + n ≤ 4 then some (((namedC l[i]).drop off).take n) else none := cells_map h
theorem cS {l : List StepM} {i off n : Nat} (h : i < l.length) : cellsAt H (.pim (l.map stepC) i off) n = if off + n ≤ 5 then some (((stepC l[i]).drop off).take n) else none := cells_map h
end

section
theorem zi (n : Nat) (H : Heap) (x : ItemM) : frz.frzL (n + 6) H (itemC x) = some (itemC x, H) := rfl
theorem zk (n : Nat) (H : Heap) (x : KidM) : frz.frzL (n + 4) H (kidC x) = some (kidC x, H) := rfl
theorem zn (n : Nat) (H : Heap) (x : NodeM) : frz.frzL (n + 5) H (nodeC x) = some (nodeC x, H) := rfl
theorem zm (n : Nat) (H : Heap) (x : NamedM) : frz.frzL (n + 6) H (namedC x) = some (namedC x, H) := rfl
theorem zs (n : Nat) (H : Heap) (x : StepM) : frz.frzL (n + 7) H (stepC x) = some (stepC x, H) := rfl
theorem fz_i (H : Heap) (x : ItemM) : frz.frzL 24 H (itemC x) = some (itemC x, H) := rfl
theorem fz_k (H : Heap) (x : KidM) : frz.frzL 24 H (kidC x) = some (kidC x, H) := rfl
theorem i_all (x : ItemM) : (itemC x).take 4 = itemC x := rfl
theorem i_0 (x : ItemM) : (itemC x).take 1 = [encB x.key] := rfl
theorem i_1 (x : ItemM) : ((itemC x).drop 1).take 1 = [encB x.value] := rfl
theorem i_2 (x : ItemM) : ((itemC x).drop 2).take 1 = [int x.size] := rfl
theorem i_3 (x : ItemM) : ((itemC x).drop 3).take 1 = [int x.ref] := rfl
theorem i_one (x : ItemM) : oneAll (itemC x) = true := rfl
theorem k_all (x : KidM) : (kidC x).take 2 = kidC x := rfl
theorem k_0 (x : KidM) : (kidC x).take 1 = [encB x.key] := rfl
theorem k_1 (x : KidM) : ((kidC x).drop 1).take 1 = [int x.ref] := rfl
theorem k_one (x : KidM) : oneAll (kidC x) = true := rfl
theorem n_all (x : NodeM) : (nodeC x).take 3 = nodeC x := rfl
theorem n_0 (x : NodeM) : (nodeC x).take 1 = [boolA x.leaf] := rfl
theorem n_1 (x : NodeM) : ((nodeC x).drop 1).take 1 = [encI x.items] := rfl
theorem n_2 (x : NodeM) : ((nodeC x).drop 2).take 1 = [encK x.kids] := rfl
theorem n_one (x : NodeM) : oneAll (nodeC x) = true := rfl
theorem len_nodeC (x : NodeM) : (nodeC x).length = 3 := rfl
theorem m_all (x : NamedM) : (namedC x).take 4 = namedC x := rfl
theorem m_0 (x : NamedM) : (namedC x).take 1 = [int x.ref] := rfl
theorem m_n (x : NamedM) : ((namedC x).drop 1).take 3 = nodeC x.n := rfl
theorem m_1 (x : NamedM) : ((namedC x).drop 1).take 1 = [boolA x.n.leaf] := rfl
theorem m_2 (x : NamedM) : ((namedC x).drop 2).take 1 = [encI x.n.items] := rfl
theorem m_3 (x : NamedM) : ((namedC x).drop 3).take 1 = [encK x.n.kids] := rfl
theorem m_one (x : NamedM) : oneAll (namedC x) = true := rfl
theorem s_all (x : StepM) : (stepC x).take 5 = stepC x := rfl
theorem s_0 (x : StepM) : (stepC x).take 1 = [int x.ref] := rfl
theorem s_n (x : StepM) : ((stepC x).drop 1).take 3 = nodeC x.n := rfl
theorem s_1 (x : StepM) : ((stepC x).drop 1).take 1 = [boolA x.n.leaf] := rfl
theorem s_2 (x : StepM) : ((stepC x).drop 2).take 1 = [encI x.n.items] := rfl
theorem s_3 (x : StepM) : ((stepC x).drop 3).take 1 = [encK x.n.kids] := rfl
theorem s_4 (x : StepM) : ((stepC x).drop 4).take 1 = [int x.k] := rfl
theorem s_one (x : StepM) : oneAll (stepC x) = true := rfl
theorem frz_B (n : Nat) (H : Heap) (l : Bytes) : frz (n + 1) H (encB l) = some (encB l, H) := rfl
theorem frz_I (n : Nat) (H : Heap) (l : List ItemM) : frz (n + 1) H (encI l) = some (encI l, H) := rfl
theorem frz_K (n : Nat) (H : Heap) (l : List KidM) : frz (n + 1) H (encK l) = some (encK l, H) := rfl
theorem frz_L (n : Nat) (H : Heap) (l : List NamedM) : frz (n + 1) H (encL l) = some (encL l, H) := rfl
theorem frz_S (n : Nat) (H : Heap) (l : List StepM) : frz (n + 1) H (encS l) = some (encS l, H) := rfl
theorem one_B (l : Bytes) : (encB l).one = true := rfl
theorem one_I (l : List ItemM) : (encI l).one = true := rfl
theorem one_K (l : List KidM) : (encK l).one = true := rfl
theorem one_L (l : List NamedM) : (encL l).one = true := rfl
theorem one_S (l : List StepM) : (encS l).one = true := rfl
theorem cs_B (l : Bytes) : (encB l).cells = [encB l] := rfl
theorem cs_I (l : List ItemM) : (encI l).cells = [encI l] := rfl
theorem cs_K (l : List KidM) : (encK l).cells = [encK l] := rfl
theorem cs_L (l : List NamedM) : (encL l).cells = [encL l] := rfl
theorem cs_S (l : List StepM) : (encS l).cells = [encS l] := rfl
set_option linter.defProp false
def da := (⟨@zi, @zk, @zn, @zm, @zs, @fz_i, @fz_k, @lenB, @lenI, @lenK, @lenL, @lenS, @i_all, @i_0, @i_1, @i_2, @i_3, @i_one, @k_all, @k_0, @k_1, @k_one, @n_all, @n_0, @n_1, @n_2, @n_one, @len_nodeC, @m_all, @m_0, @m_n, @m_1, @m_2, @m_3, @m_one, @s_all, @s_0, @s_n, @s_1, @s_2, @s_3, @s_4, @s_one, @len_itemC, @len_kidC, @len_namedC, @len_stepC, @frz_B, @frz_I, @frz_K, @frz_L, @frz_S, @one_B, @one_I, @one_K, @one_L, @one_S, @cs_B, @cs_I, @cs_K, @cs_L, @cs_S⟩ : _ ∧ _ ∧ _ ∧ _ ∧ _ ∧ _ ∧ _ ∧ _ ∧ _ ∧ _ ∧ _ ∧ _ ∧ _ ∧ _ ∧ _ ∧ _ ∧ _ ∧ _ ∧ _ ∧ _ ∧ _ ∧ _ ∧ _ ∧ _ ∧ _ ∧ _ ∧ _ ∧ _ ∧ _ ∧ _ ∧ _ ∧ _ ∧ _ ∧ _ ∧ _ ∧ _ ∧ _ ∧ _ ∧ _ ∧ _ ∧ _ ∧ _ ∧ _ ∧ _ ∧ _ ∧ _ ∧ _ ∧ _ ∧ _ ∧ _ ∧ _ ∧ _ ∧ _ ∧ _ ∧ _ ∧ _ ∧ _ ∧ _ ∧ _ ∧ _ ∧ _ ∧ _)
end

/-! ### Compare -/
theorem cmpB_end {a b : Bytes} {i : Nat} (h : a.length ≤ i ∨ b.length ≤ i) (hia : i ≤ a.length) (hib : i ≤ b.length) : cmpB (a.drop i) (b.drop i) = if a.length < b.length then -1 else if b.length < a.length then 1 else 0 := by
  by_cases ha : a.length = i
  · rw [List.drop_eq_nil_of_le (by omega)]
    by_cases hb : b.length = i
    · rw [List.drop_eq_nil_of_le (by omega), if_neg (by omega), if_neg (by omega)]
      rfl
    · rw [List.drop_eq_getElem_cons (by omega : i < b.length), if_pos (by omega)]
      rfl
  · have hb : b.length = i := by omega
    rw [List.drop_eq_nil_of_le (by omega : b.length ≤ i), List.drop_eq_getElem_cons (by omega : i < a.length), if_neg (by omega), if_pos (by omega)]
    rfl
theorem cmpB_step {a b : Bytes} {i : Nat} (ha : i < a.length) (hb : i < b.length) : cmpB (a.drop i) (b.drop i) = if a[i] < b[i] then -1 else if b[i] < a[i] then 1 else cmpB (a.drop (i + 1)) (b.drop (i + 1)) := by
  rw [List.drop_eq_getElem_cons ha, List.drop_eq_getElem_cons hb]
  rfl

theorem l25 (a b : Bytes) (ha : a.length < MX) (hb : b.length < MX) {H : Heap} {L : List Blk} {Q : AExit → Env → Heap → Prop}
   (hex : ∀ f', f' 0 = encB a → f' 1 = encB b → cmpB a b = (if a.length < b.length then -1 else if b.length < a.length then 1 else 0) → Q (.exit 0) (mkE 46 f') (hx H L))
   (hret : ∀ f', f' 4 = int (cmpB a b) → Q .ret (mkE 46 f') (hx H L)) : ∀ (d i : Nat) (f : Nat → AV), i + d = a.length → i ≤ b.length → cmpB a b = cmpB (a.drop i) (b.drop i) → f 0 = encB a → f 1 = encB b → f 5 = int i →
    AW ft (.loop c25L0) (mkE 46 f) (hx H L) Q := by
  intro d
  unfold MX at ha hb
  induction d with
  | zero =>
    intro i f hd hib hc h0 h1 h5
    have g : ((i : Int) < a.length) = False := by simp; omega
    rw [AW_loop]
    unfold c25L0
    simp only [↓vp, vq0, vq1, vq2, vq3, vr0, vr1, vr2, vr3, vr4, vr5, vr6, vr7, vr8, vr9, vr10, vr11, vr12, vr13, vr14, vr15, vr16, vr17, vr18, vr19, vr20, vr21, vr22, vr23, vr24, vr25, vr26, vr27, vr28, vr29, vr30, vr31, vr32, vr33, vr34, opS, fpS, okP, pack, nAl, allocA, shId, leaves, fillA, fillR, splice, Nat.reduceLT, Nat.reduceEqDiff, Nat.reduceLeDiff, Nat.reduceAdd, Nat.reduceSub, Nat.reduceMul, Int.reduceBEq, Int.reduceBNe, Int.reduceLT, Int.reduceLE, Int.reduceEq, reduceIte, reduceCtorEq, lenB, int, h0, h1, h5, g]
    exact hex _ h0 h1 (hc.trans (cmpB_end (by omega) (by omega) (by omega)))
  | succ d ih =>
    intro i f hd hib hc h0 h1 h5
    have g : ((i : Int) < a.length) = True := by simp; omega
    have gi : i < a.length := by omega
    rw [AW_loop]
    unfold c25L0
    by_cases hb' : i < b.length
    · have g2 : ((i : Int) < b.length) = True := by simp; omega
      have hs := cmpB_step gi hb'
      simp only [↓vp, vq0, vq1, vq2, vq3, vr0, vr1, vr2, vr3, vr4, vr5, vr6, vr7, vr8, vr9, vr10, vr11, vr12, vr13, vr14, vr15, vr16, vr17, vr18, vr19, vr20, vr21, vr22, vr23, vr24, vr25, vr26, vr27, vr28, vr29, vr30, vr31, vr32, vr33, vr34, opS, fpS, okP, pack, nAl, allocA, shId, leaves, fillA, fillR, splice, Nat.reduceLT, Nat.reduceEqDiff, Nat.reduceLeDiff, Nat.reduceAdd, Nat.reduceSub, Nat.reduceMul, Int.reduceBEq, Int.reduceBNe, Int.reduceLT, Int.reduceLE, Int.reduceEq, reduceIte, reduceCtorEq, lenB, int, h0, h1, h5, g, g2, atB gi, atB hb', cB gi, cB hb', byteC, wrap_succ (show i < 9223372036854775807 by omega)]
      split
      · rename_i hlt
        refine hret _ ?_
        simp only [↓vp, vq0, vq1, vq2, vq3, vr0, vr1, vr2, vr3, vr4, vr5, vr6, vr7, vr8, vr9, vr10, vr11, vr12, vr13, vr14, vr15, vr16, vr17, vr18, vr19, vr20, vr21, vr22, vr23, vr24, vr25, vr26, vr27, vr28, vr29, vr30, vr31, vr32, vr33, vr34, opS, fpS, okP, pack, nAl, allocA, shId, leaves, fillA, fillR, splice, Nat.reduceLT, Nat.reduceEqDiff, Nat.reduceLeDiff, Nat.reduceAdd, Nat.reduceSub, Nat.reduceMul, Int.reduceBEq, Int.reduceBNe, Int.reduceLT, Int.reduceLE, Int.reduceEq, reduceIte, reduceCtorEq]
        rw [hc, hs, if_pos hlt]
        rfl
      · rename_i hnl
        split
        · rename_i hgt
          refine hret _ ?_
          simp only [↓vp, vq0, vq1, vq2, vq3, vr0, vr1, vr2, vr3, vr4, vr5, vr6, vr7, vr8, vr9, vr10, vr11, vr12, vr13, vr14, vr15, vr16, vr17, vr18, vr19, vr20, vr21, vr22, vr23, vr24, vr25, vr26, vr27, vr28, vr29, vr30, vr31, vr32, vr33, vr34, opS, fpS, okP, pack, nAl, allocA, shId, leaves, fillA, fillR, splice, Nat.reduceLT, Nat.reduceEqDiff, Nat.reduceLeDiff, Nat.reduceAdd, Nat.reduceSub, Nat.reduceMul, Int.reduceBEq, Int.reduceBNe, Int.reduceLT, Int.reduceLE, Int.reduceEq, reduceIte, reduceCtorEq]
          rw [hc, hs, if_neg hnl, if_pos hgt]
          rfl
        · rename_i hng
          refine ih (i + 1) _ (by omega) (by omega) ?_ ?_ ?_ ?_
          · rw [hc, hs, if_neg hnl, if_neg hng]
          · simp only [↓vp, vq0, vq1, vq2, vq3, vr0, vr1, vr2, vr3, vr4, vr5, vr6, vr7, vr8, vr9, vr10, vr11, vr12, vr13, vr14, vr15, vr16, vr17, vr18, vr19, vr20, vr21, vr22, vr23, vr24, vr25, vr26, vr27, vr28, vr29, vr30, vr31, vr32, vr33, vr34, opS, fpS, okP, pack, nAl, allocA, shId, leaves, fillA, fillR, splice, Nat.reduceLT, Nat.reduceEqDiff, Nat.reduceLeDiff, Nat.reduceAdd, Nat.reduceSub, Nat.reduceMul, Int.reduceBEq, Int.reduceBNe, Int.reduceLT, Int.reduceLE, Int.reduceEq, reduceIte, reduceCtorEq, h0]
          · simp only [↓vp, vq0, vq1, vq2, vq3, vr0, vr1, vr2, vr3, vr4, vr5, vr6, vr7, vr8, vr9, vr10, vr11, vr12, vr13, vr14, vr15, vr16, vr17, vr18, vr19, vr20, vr21, vr22, vr23, vr24, vr25, vr26, vr27, vr28, vr29, vr30, vr31, vr32, vr33, vr34, opS, fpS, okP, pack, nAl, allocA, shId, leaves, fillA, fillR, splice, Nat.reduceLT, Nat.reduceEqDiff, Nat.reduceLeDiff, Nat.reduceAdd, Nat.reduceSub, Nat.reduceMul, Int.reduceBEq, Int.reduceBNe, Int.reduceLT, Int.reduceLE, Int.reduceEq, reduceIte, reduceCtorEq, h1]
          · simp only [↓vp, vq0, vq1, vq2, vq3, vr0, vr1, vr2, vr3, vr4, vr5, vr6, vr7, vr8, vr9, vr10, vr11, vr12, vr13, vr14, vr15, vr16, vr17, vr18, vr19, vr20, vr21, vr22, vr23, vr24, vr25, vr26, vr27, vr28, vr29, vr30, vr31, vr32, vr33, vr34, opS, fpS, okP, pack, nAl, allocA, shId, leaves, fillA, fillR, splice, Nat.reduceLT, Nat.reduceEqDiff, Nat.reduceLeDiff, Nat.reduceAdd, Nat.reduceSub, Nat.reduceMul, Int.reduceBEq, Int.reduceBNe, Int.reduceLT, Int.reduceLE, Int.reduceEq, reduceIte, reduceCtorEq, int]
    · have g2 : ((i : Int) < b.length) = False := by simp; omega
      simp only [↓vp, vq0, vq1, vq2, vq3, vr0, vr1, vr2, vr3, vr4, vr5, vr6, vr7, vr8, vr9, vr10, vr11, vr12, vr13, vr14, vr15, vr16, vr17, vr18, vr19, vr20, vr21, vr22, vr23, vr24, vr25, vr26, vr27, vr28, vr29, vr30, vr31, vr32, vr33, vr34, opS, fpS, okP, pack, nAl, allocA, shId, leaves, fillA, fillR, splice, Nat.reduceLT, Nat.reduceEqDiff, Nat.reduceLeDiff, Nat.reduceAdd, Nat.reduceSub, Nat.reduceMul, Int.reduceBEq, Int.reduceBNe, Int.reduceLT, Int.reduceLE, Int.reduceEq, reduceIte, reduceCtorEq, lenB, int, h0, h1, h5, g, g2]
      exact hex _ h0 h1 (hc.trans (cmpB_end (by omega) (by omega) (by omega)))

theorem s25 (a b : Bytes) (ha : a.length < MX) (hb : b.length < MX) (H : Heap) : callL ft (.fn (.func 25) [] []) [encB a, encB b] H = some (int (cmpB a b), H) := by
  refine call_p (as' := [encB a, encB b]) rfl rfl (by simp) ?_
  unfold c25
  simp only [↓vp, vq0, vq1, vq2, vq3, vr0, vr1, vr2, vr3, vr4, vr5, vr6, vr7, vr8, vr9, vr10, vr11, vr12, vr13, vr14, vr15, vr16, vr17, vr18, vr19, vr20, vr21, vr22, vr23, vr24, vr25, vr26, vr27, vr28, vr29, vr30, vr31, vr32, vr33, vr34, opS, fpS, okP, pack, nAl, allocA, shId, leaves, fillA, fillR, splice, Nat.reduceLT, Nat.reduceEqDiff, Nat.reduceLeDiff, Nat.reduceAdd, Nat.reduceSub, Nat.reduceMul, Int.reduceBEq, Int.reduceBNe, Int.reduceLT, Int.reduceLE, Int.reduceEq, reduceIte, reduceCtorEq]
  refine l25 a b ha hb (fun f' h0 h1 hc => ?_) (fun f' h4 => ?_) a.length 0 _ (by omega) (by omega) rfl ?_ ?_ ?_
  · unfold c25R1
    by_cases g1 : a.length < b.length
    · have g1' : ((a.length : Int) < b.length) = True := by simp; omega
      simp only [↓vp, vq0, vq1, vq2, vq3, vr0, vr1, vr2, vr3, vr4, vr5, vr6, vr7, vr8, vr9, vr10, vr11, vr12, vr13, vr14, vr15, vr16, vr17, vr18, vr19, vr20, vr21, vr22, vr23, vr24, vr25, vr26, vr27, vr28, vr29, vr30, vr31, vr32, vr33, vr34, opS, fpS, okP, pack, nAl, allocA, shId, leaves, fillA, fillR, splice, Nat.reduceLT, Nat.reduceEqDiff, Nat.reduceLeDiff, Nat.reduceAdd, Nat.reduceSub, Nat.reduceMul, Int.reduceBEq, Int.reduceBNe, Int.reduceLT, Int.reduceLE, Int.reduceEq, reduceIte, reduceCtorEq, h0, h1, lenB, g1']
      refine ret1 rfl (by decide) ?_
      simp only [↓vp, vq0, vq1, vq2, vq3, vr0, vr1, vr2, vr3, vr4, vr5, vr6, vr7, vr8, vr9, vr10, vr11, vr12, vr13, vr14, vr15, vr16, vr17, vr18, vr19, vr20, vr21, vr22, vr23, vr24, vr25, vr26, vr27, vr28, vr29, vr30, vr31, vr32, vr33, vr34, opS, fpS, okP, pack, nAl, allocA, shId, leaves, fillA, fillR, splice, Nat.reduceLT, Nat.reduceEqDiff, Nat.reduceLeDiff, Nat.reduceAdd, Nat.reduceSub, Nat.reduceMul, Int.reduceBEq, Int.reduceBNe, Int.reduceLT, Int.reduceLE, Int.reduceEq, reduceIte, reduceCtorEq]
      rw [hc, if_pos g1]
      exact ⟨_, rfl⟩
    · have g1' : ((a.length : Int) < b.length) = False := by simp; omega
      by_cases g2 : b.length < a.length
      · have g2' : ((b.length : Int) < a.length) = True := by simp; omega
        simp only [↓vp, vq0, vq1, vq2, vq3, vr0, vr1, vr2, vr3, vr4, vr5, vr6, vr7, vr8, vr9, vr10, vr11, vr12, vr13, vr14, vr15, vr16, vr17, vr18, vr19, vr20, vr21, vr22, vr23, vr24, vr25, vr26, vr27, vr28, vr29, vr30, vr31, vr32, vr33, vr34, opS, fpS, okP, pack, nAl, allocA, shId, leaves, fillA, fillR, splice, Nat.reduceLT, Nat.reduceEqDiff, Nat.reduceLeDiff, Nat.reduceAdd, Nat.reduceSub, Nat.reduceMul, Int.reduceBEq, Int.reduceBNe, Int.reduceLT, Int.reduceLE, Int.reduceEq, reduceIte, reduceCtorEq, h0, h1, lenB, g1', g2']
        refine ret1 rfl (by decide) ?_
        simp only [↓vp, vq0, vq1, vq2, vq3, vr0, vr1, vr2, vr3, vr4, vr5, vr6, vr7, vr8, vr9, vr10, vr11, vr12, vr13, vr14, vr15, vr16, vr17, vr18, vr19, vr20, vr21, vr22, vr23, vr24, vr25, vr26, vr27, vr28, vr29, vr30, vr31, vr32, vr33, vr34, opS, fpS, okP, pack, nAl, allocA, shId, leaves, fillA, fillR, splice, Nat.reduceLT, Nat.reduceEqDiff, Nat.reduceLeDiff, Nat.reduceAdd, Nat.reduceSub, Nat.reduceMul, Int.reduceBEq, Int.reduceBNe, Int.reduceLT, Int.reduceLE, Int.reduceEq, reduceIte, reduceCtorEq]
        rw [hc, if_neg g1, if_pos g2]
        exact ⟨_, rfl⟩
      · have g2' : ((b.length : Int) < a.length) = False := by simp; omega
        simp only [↓vp, vq0, vq1, vq2, vq3, vr0, vr1, vr2, vr3, vr4, vr5, vr6, vr7, vr8, vr9, vr10, vr11, vr12, vr13, vr14, vr15, vr16, vr17, vr18, vr19, vr20, vr21, vr22, vr23, vr24, vr25, vr26, vr27, vr28, vr29, vr30, vr31, vr32, vr33, vr34, opS, fpS, okP, pack, nAl, allocA, shId, leaves, fillA, fillR, splice, Nat.reduceLT, Nat.reduceEqDiff, Nat.reduceLeDiff, Nat.reduceAdd, Nat.reduceSub, Nat.reduceMul, Int.reduceBEq, Int.reduceBNe, Int.reduceLT, Int.reduceLE, Int.reduceEq, reduceIte, reduceCtorEq, h0, h1, lenB, g1', g2']
        refine ret1 rfl (by decide) ?_
        simp only [↓vp, vq0, vq1, vq2, vq3, vr0, vr1, vr2, vr3, vr4, vr5, vr6, vr7, vr8, vr9, vr10, vr11, vr12, vr13, vr14, vr15, vr16, vr17, vr18, vr19, vr20, vr21, vr22, vr23, vr24, vr25, vr26, vr27, vr28, vr29, vr30, vr31, vr32, vr33, vr34, opS, fpS, okP, pack, nAl, allocA, shId, leaves, fillA, fillR, splice, Nat.reduceLT, Nat.reduceEqDiff, Nat.reduceLeDiff, Nat.reduceAdd, Nat.reduceSub, Nat.reduceMul, Int.reduceBEq, Int.reduceBNe, Int.reduceLT, Int.reduceLE, Int.reduceEq, reduceIte, reduceCtorEq]
        rw [hc, if_neg g1, if_neg g2]
        exact ⟨_, rfl⟩
  · refine ret1 rfl (by decide) ?_
    rw [h4]
    exact ⟨_, rfl⟩
  · rfl
  · rfl
  · rfl
end Go.VI

/- VI, part SB: items alike; a node's parts; nodes by their number. -/
set_option linter.unusedVariables false
set_option linter.unusedSimpArgs false
set_option maxRecDepth 100000
namespace Go.VI
attribute [local congr] AW_congr OW_congr DW_congr NW_congr VW_congr GW_congr PW_congr KW_congr ite_congr' GV_congr CV_congr

structure okB (l : Bytes) : Prop where
  n : l.length < MX
  r : byteR l = true
structure okIt (x : ItemM) : Prop where
  k : okB x.key
  v : okB x.value
structure okI (l : List ItemM) : Prop where
  n : l.length < MX
  h : ∀ x ∈ l, okIt x
structure okK (l : List KidM) : Prop where
  n : l.length < MX
  h : ∀ x ∈ l, okB x.key
structure okN (n : NodeM) : Prop where
  i : okI n.items
  k : okK n.kids
structure okL (l : List NamedM) : Prop where
  n : l.length < MX
  h : ∀ x ∈ l, okN x.n
theorem okI.at_ {l : List ItemM} (h : okI l) {i : Nat} (hi : i < l.length) : okIt l[i] := h.h _ (List.getElem_mem hi)
theorem okK.at_ {l : List KidM} (h : okK l) {i : Nat} (hi : i < l.length) : okB l[i].key := h.h _ (List.getElem_mem hi)
theorem okL.at_ {l : List NamedM} (h : okL l) {i : Nat} (hi : i < l.length) : okN l[i].n := h.h _ (List.getElem_mem hi)

theorem k25 {a b : Bytes} (ha : okB a) (hb : okB b) {K : Heap} {L : List Blk} {Q : AV → Heap → Prop} : KW ft (.fn (.func 25) [] []) [encB a, encB b] (hx K L) Q ↔ Q (int (cmpB a b)) (hx K L) := KW_of (s25 a b ha.n hb.n _)

/-! ### items alike -/
def sameI (x y : ItemM) : Bool := cmpB x.key y.key == 0 && cmpB x.value y.value == 0 && x.size == y.size && x.ref == y.ref
theorem s23 (x y : ItemM) (hx_ : okIt x) (hy : okIt y) (H : Heap) : callL ft (.fn (.func 23) [] []) [.agg (itemC x), .agg (itemC y)] H = some (boolA (sameI x y), H) := by
  refine call_p (as' := [.agg (itemC x), .agg (itemC y)]) rfl rfl (by simp) ?_
  unfold c23 r23
  have h1 := hx_.k
  have h2 := hx_.v
  have h3 := hy.k
  have h4 := hy.v
  cases e1 : cmpB x.key y.key == 0 with
  | false =>
    simp only [↓vp, vq0, vq1, vq2, vq3, vr0, vr1, vr2, vr3, vr4, vr5, vr6, vr7, vr8, vr9, vr10, vr11, vr12, vr13, vr14, vr15, vr16, vr17, vr18, vr19, vr20, vr21, vr22, vr23, vr24, vr25, vr26, vr27, vr28, vr29, vr30, vr31, vr32, vr33, vr34, opS, fpS, okP, pack, nAl, allocA, shId, leaves, fillA, fillR, splice, Nat.reduceLT, Nat.reduceEqDiff, Nat.reduceLeDiff, Nat.reduceAdd, Nat.reduceSub, Nat.reduceMul, Int.reduceBEq, Int.reduceBNe, Int.reduceLT, Int.reduceLE, Int.reduceEq, reduceIte, reduceCtorEq, itemC, int, one_B, k25, h1, h2, h3, h4, e1]
    refine ret1 rfl (by decide) ?_
    simp only [↓vp, vq0, vq1, vq2, vq3, vr0, vr1, vr2, vr3, vr4, vr5, vr6, vr7, vr8, vr9, vr10, vr11, vr12, vr13, vr14, vr15, vr16, vr17, vr18, vr19, vr20, vr21, vr22, vr23, vr24, vr25, vr26, vr27, vr28, vr29, vr30, vr31, vr32, vr33, vr34, opS, fpS, okP, pack, nAl, allocA, shId, leaves, fillA, fillR, splice, Nat.reduceLT, Nat.reduceEqDiff, Nat.reduceLeDiff, Nat.reduceAdd, Nat.reduceSub, Nat.reduceMul, Int.reduceBEq, Int.reduceBNe, Int.reduceLT, Int.reduceLE, Int.reduceEq, reduceIte, reduceCtorEq]
    exact ⟨_, by simp only [sameI, e1]; rfl⟩
  | true =>
    cases e2 : cmpB x.value y.value == 0 with
    | false =>
      simp only [↓vp, vq0, vq1, vq2, vq3, vr0, vr1, vr2, vr3, vr4, vr5, vr6, vr7, vr8, vr9, vr10, vr11, vr12, vr13, vr14, vr15, vr16, vr17, vr18, vr19, vr20, vr21, vr22, vr23, vr24, vr25, vr26, vr27, vr28, vr29, vr30, vr31, vr32, vr33, vr34, opS, fpS, okP, pack, nAl, allocA, shId, leaves, fillA, fillR, splice, Nat.reduceLT, Nat.reduceEqDiff, Nat.reduceLeDiff, Nat.reduceAdd, Nat.reduceSub, Nat.reduceMul, Int.reduceBEq, Int.reduceBNe, Int.reduceLT, Int.reduceLE, Int.reduceEq, reduceIte, reduceCtorEq, itemC, int, one_B, k25, h1, h2, h3, h4, e1, e2]
      refine ret1 rfl (by decide) ?_
      simp only [↓vp, vq0, vq1, vq2, vq3, vr0, vr1, vr2, vr3, vr4, vr5, vr6, vr7, vr8, vr9, vr10, vr11, vr12, vr13, vr14, vr15, vr16, vr17, vr18, vr19, vr20, vr21, vr22, vr23, vr24, vr25, vr26, vr27, vr28, vr29, vr30, vr31, vr32, vr33, vr34, opS, fpS, okP, pack, nAl, allocA, shId, leaves, fillA, fillR, splice, Nat.reduceLT, Nat.reduceEqDiff, Nat.reduceLeDiff, Nat.reduceAdd, Nat.reduceSub, Nat.reduceMul, Int.reduceBEq, Int.reduceBNe, Int.reduceLT, Int.reduceLE, Int.reduceEq, reduceIte, reduceCtorEq]
      exact ⟨_, by simp only [sameI, e1, e2]; rfl⟩
    | true =>
      cases e3 : x.size == y.size with
      | false =>
        simp only [↓vp, vq0, vq1, vq2, vq3, vr0, vr1, vr2, vr3, vr4, vr5, vr6, vr7, vr8, vr9, vr10, vr11, vr12, vr13, vr14, vr15, vr16, vr17, vr18, vr19, vr20, vr21, vr22, vr23, vr24, vr25, vr26, vr27, vr28, vr29, vr30, vr31, vr32, vr33, vr34, opS, fpS, okP, pack, nAl, allocA, shId, leaves, fillA, fillR, splice, Nat.reduceLT, Nat.reduceEqDiff, Nat.reduceLeDiff, Nat.reduceAdd, Nat.reduceSub, Nat.reduceMul, Int.reduceBEq, Int.reduceBNe, Int.reduceLT, Int.reduceLE, Int.reduceEq, reduceIte, reduceCtorEq, itemC, int, one_B, k25, h1, h2, h3, h4, e1, e2, e3]
        refine ret1 rfl (by decide) ?_
        simp only [↓vp, vq0, vq1, vq2, vq3, vr0, vr1, vr2, vr3, vr4, vr5, vr6, vr7, vr8, vr9, vr10, vr11, vr12, vr13, vr14, vr15, vr16, vr17, vr18, vr19, vr20, vr21, vr22, vr23, vr24, vr25, vr26, vr27, vr28, vr29, vr30, vr31, vr32, vr33, vr34, opS, fpS, okP, pack, nAl, allocA, shId, leaves, fillA, fillR, splice, Nat.reduceLT, Nat.reduceEqDiff, Nat.reduceLeDiff, Nat.reduceAdd, Nat.reduceSub, Nat.reduceMul, Int.reduceBEq, Int.reduceBNe, Int.reduceLT, Int.reduceLE, Int.reduceEq, reduceIte, reduceCtorEq]
        exact ⟨_, by simp only [sameI, e1, e2, e3]; rfl⟩
      | true =>
        simp only [↓vp, vq0, vq1, vq2, vq3, vr0, vr1, vr2, vr3, vr4, vr5, vr6, vr7, vr8, vr9, vr10, vr11, vr12, vr13, vr14, vr15, vr16, vr17, vr18, vr19, vr20, vr21, vr22, vr23, vr24, vr25, vr26, vr27, vr28, vr29, vr30, vr31, vr32, vr33, vr34, opS, fpS, okP, pack, nAl, allocA, shId, leaves, fillA, fillR, splice, Nat.reduceLT, Nat.reduceEqDiff, Nat.reduceLeDiff, Nat.reduceAdd, Nat.reduceSub, Nat.reduceMul, Int.reduceBEq, Int.reduceBNe, Int.reduceLT, Int.reduceLE, Int.reduceEq, reduceIte, reduceCtorEq, itemC, int, one_B, k25, h1, h2, h3, h4, e1, e2, e3]
        refine ret1 rfl (by decide) ?_
        simp only [↓vp, vq0, vq1, vq2, vq3, vr0, vr1, vr2, vr3, vr4, vr5, vr6, vr7, vr8, vr9, vr10, vr11, vr12, vr13, vr14, vr15, vr16, vr17, vr18, vr19, vr20, vr21, vr22, vr23, vr24, vr25, vr26, vr27, vr28, vr29, vr30, vr31, vr32, vr33, vr34, opS, fpS, okP, pack, nAl, allocA, shId, leaves, fillA, fillR, splice, Nat.reduceLT, Nat.reduceEqDiff, Nat.reduceLeDiff, Nat.reduceAdd, Nat.reduceSub, Nat.reduceMul, Int.reduceBEq, Int.reduceBNe, Int.reduceLT, Int.reduceLE, Int.reduceEq, reduceIte, reduceCtorEq]
        exact ⟨_, by simp only [sameI, e1, e2, e3, Bool.true_and]; rfl⟩

/-! ### a node's parts -/
def manyN (n : NodeM) : Int := if n.leaf then n.items.length else n.kids.length
theorem s48 (n : NodeM) (H : Heap) : callL ft (.fn (.func 48) [] []) [.agg (nodeC n)] H = some (int (manyN n), H) := by
  refine call_p (as' := [.agg (nodeC n)]) rfl rfl (by simp) ?_
  unfold c48 r48
  cases e : n.leaf with
  | true =>
    simp only [↓vp, vq0, vq1, vq2, vq3, vr0, vr1, vr2, vr3, vr4, vr5, vr6, vr7, vr8, vr9, vr10, vr11, vr12, vr13, vr14, vr15, vr16, vr17, vr18, vr19, vr20, vr21, vr22, vr23, vr24, vr25, vr26, vr27, vr28, vr29, vr30, vr31, vr32, vr33, vr34, opS, fpS, okP, pack, nAl, allocA, shId, leaves, fillA, fillR, splice, Nat.reduceLT, Nat.reduceEqDiff, Nat.reduceLeDiff, Nat.reduceAdd, Nat.reduceSub, Nat.reduceMul, Int.reduceBEq, Int.reduceBNe, Int.reduceLT, Int.reduceLE, Int.reduceEq, reduceIte, reduceCtorEq, nodeC, boolA, one_I, one_K, e, lenI, lenK]
    refine ret1 rfl (by decide) ?_
    simp only [↓vp, vq0, vq1, vq2, vq3, vr0, vr1, vr2, vr3, vr4, vr5, vr6, vr7, vr8, vr9, vr10, vr11, vr12, vr13, vr14, vr15, vr16, vr17, vr18, vr19, vr20, vr21, vr22, vr23, vr24, vr25, vr26, vr27, vr28, vr29, vr30, vr31, vr32, vr33, vr34, opS, fpS, okP, pack, nAl, allocA, shId, leaves, fillA, fillR, splice, Nat.reduceLT, Nat.reduceEqDiff, Nat.reduceLeDiff, Nat.reduceAdd, Nat.reduceSub, Nat.reduceMul, Int.reduceBEq, Int.reduceBNe, Int.reduceLT, Int.reduceLE, Int.reduceEq, reduceIte, reduceCtorEq, manyN, e]
    exact ⟨_, rfl⟩
  | false =>
    simp only [↓vp, vq0, vq1, vq2, vq3, vr0, vr1, vr2, vr3, vr4, vr5, vr6, vr7, vr8, vr9, vr10, vr11, vr12, vr13, vr14, vr15, vr16, vr17, vr18, vr19, vr20, vr21, vr22, vr23, vr24, vr25, vr26, vr27, vr28, vr29, vr30, vr31, vr32, vr33, vr34, opS, fpS, okP, pack, nAl, allocA, shId, leaves, fillA, fillR, splice, Nat.reduceLT, Nat.reduceEqDiff, Nat.reduceLeDiff, Nat.reduceAdd, Nat.reduceSub, Nat.reduceMul, Int.reduceBEq, Int.reduceBNe, Int.reduceLT, Int.reduceLE, Int.reduceEq, reduceIte, reduceCtorEq, nodeC, boolA, one_I, one_K, e, lenI, lenK]
    refine ret1 rfl (by decide) ?_
    simp only [↓vp, vq0, vq1, vq2, vq3, vr0, vr1, vr2, vr3, vr4, vr5, vr6, vr7, vr8, vr9, vr10, vr11, vr12, vr13, vr14, vr15, vr16, vr17, vr18, vr19, vr20, vr21, vr22, vr23, vr24, vr25, vr26, vr27, vr28, vr29, vr30, vr31, vr32, vr33, vr34, opS, fpS, okP, pack, nAl, allocA, shId, leaves, fillA, fillR, splice, Nat.reduceLT, Nat.reduceEqDiff, Nat.reduceLeDiff, Nat.reduceAdd, Nat.reduceSub, Nat.reduceMul, Int.reduceBEq, Int.reduceBNe, Int.reduceLT, Int.reduceLE, Int.reduceEq, reduceIte, reduceCtorEq, manyN, e]
    exact ⟨_, rfl⟩

/-- How many keys are below; is it there? -/
def findM (l : List ItemM) (key : Bytes) : Int × Bool := l.foldl (fun p x => (if cmpB x.key key < 0 then p.1 + 1 else p.1, p.2 || cmpB x.key key == 0)) (0, false)
theorem l49 (n : NodeM) (key : Bytes) (hn : okN n) (hk : okB key) {L : List Blk} {Q : AExit → Env → Heap → Prop} (hL : L[0]? = some (.box false (nodeC n)))
   (hex : ∀ f', f' 6 = int (findM n.items key).1 → f' 7 = boolA (findM n.items key).2 → Q (.exit 0) (mkE 33 f') (hx Heap.empty L)) :
   ∀ (d i c : Nat) (b : Bool) (f : Nat → AV), i + d = n.items.length → c ≤ i → findM n.items key = (n.items.drop i).foldl (fun p x => (if cmpB x.key key < 0 then p.1 + 1 else p.1, p.2 || cmpB x.key key == 0)) ((c : Int), b) → f 1 = encB key → f 2 = .ptr 0 0 0 → f 6 = int c → f 7 = boolA b → f 8 = int i →
    AW ft (.loop c49L0) (mkE 33 f) (hx Heap.empty L) Q := by
  intro d
  have hi := hn.i.n
  unfold MX at hi
  induction d with
  | zero =>
    intro i c b f hd hci hc h1 h2 h6 h7 h8
    have g : ((i : Int) < n.items.length) = False := by simp; omega
    rw [AW_loop]
    unfold c49L0
    rw [List.drop_eq_nil_of_le (by omega)] at hc
    simp only [↓vp, vq0, vq1, vq2, vq3, vr0, vr1, vr2, vr3, vr4, vr5, vr6, vr7, vr8, vr9, vr10, vr11, vr12, vr13, vr14, vr15, vr16, vr17, vr18, vr19, vr20, vr21, vr22, vr23, vr24, vr25, vr26, vr27, vr28, vr29, vr30, vr31, vr32, vr33, vr34, opS, fpS, okP, pack, nAl, allocA, shId, leaves, fillA, fillR, splice, Nat.reduceLT, Nat.reduceEqDiff, Nat.reduceLeDiff, Nat.reduceAdd, Nat.reduceSub, Nat.reduceMul, Int.reduceBEq, Int.reduceBNe, Int.reduceLT, Int.reduceLE, Int.reduceEq, reduceIte, reduceCtorEq, hL, nodeC, boolA, int, lenI, lenK, h1, h2, h8, g]
    refine hex _ ?_ ?_
    · simp only [↓vp, vq0, vq1, vq2, vq3, vr0, vr1, vr2, vr3, vr4, vr5, vr6, vr7, vr8, vr9, vr10, vr11, vr12, vr13, vr14, vr15, vr16, vr17, vr18, vr19, vr20, vr21, vr22, vr23, vr24, vr25, vr26, vr27, vr28, vr29, vr30, vr31, vr32, vr33, vr34, opS, fpS, okP, pack, nAl, allocA, shId, leaves, fillA, fillR, splice, Nat.reduceLT, Nat.reduceEqDiff, Nat.reduceLeDiff, Nat.reduceAdd, Nat.reduceSub, Nat.reduceMul, Int.reduceBEq, Int.reduceBNe, Int.reduceLT, Int.reduceLE, Int.reduceEq, reduceIte, reduceCtorEq, h6, hc, List.foldl_nil]
    · simp only [↓vp, vq0, vq1, vq2, vq3, vr0, vr1, vr2, vr3, vr4, vr5, vr6, vr7, vr8, vr9, vr10, vr11, vr12, vr13, vr14, vr15, vr16, vr17, vr18, vr19, vr20, vr21, vr22, vr23, vr24, vr25, vr26, vr27, vr28, vr29, vr30, vr31, vr32, vr33, vr34, opS, fpS, okP, pack, nAl, allocA, shId, leaves, fillA, fillR, splice, Nat.reduceLT, Nat.reduceEqDiff, Nat.reduceLeDiff, Nat.reduceAdd, Nat.reduceSub, Nat.reduceMul, Int.reduceBEq, Int.reduceBNe, Int.reduceLT, Int.reduceLE, Int.reduceEq, reduceIte, reduceCtorEq, h7, hc, List.foldl_nil]
  | succ d ih =>
    intro i c b f hd hci hc h1 h2 h6 h7 h8
    have g : ((i : Int) < n.items.length) = True := by simp; omega
    have gi : i < n.items.length := by omega
    have hkey := (hn.i.at_ gi).k
    rw [AW_loop]
    unfold c49L0
    rw [List.drop_eq_getElem_cons gi, List.foldl_cons] at hc
    have w1 := wrap_succ (show i < 9223372036854775807 by omega)
    have w2 := wrap_succ (show c < 9223372036854775807 by omega)
    by_cases e1 : cmpB n.items[i].key key < 0
    · have e2 : (cmpB n.items[i].key key == 0) = false := by simp; omega
      rw [if_pos e1, e2, Bool.or_false] at hc
      simp only [↓vp, vq0, vq1, vq2, vq3, vr0, vr1, vr2, vr3, vr4, vr5, vr6, vr7, vr8, vr9, vr10, vr11, vr12, vr13, vr14, vr15, vr16, vr17, vr18, vr19, vr20, vr21, vr22, vr23, vr24, vr25, vr26, vr27, vr28, vr29, vr30, vr31, vr32, vr33, vr34, opS, fpS, okP, pack, nAl, allocA, shId, leaves, fillA, fillR, splice, Nat.reduceLT, Nat.reduceEqDiff, Nat.reduceLeDiff, Nat.reduceAdd, Nat.reduceSub, Nat.reduceMul, Int.reduceBEq, Int.reduceBNe, Int.reduceLT, Int.reduceLE, Int.reduceEq, reduceIte, reduceCtorEq, hL, nodeC, itemC, boolA, int, lenI, lenK, h1, h2, h6, h7, h8, g, atI gi, cI gi, k25, hkey, hk, e1, e2, w1, w2]
      refine ih (i + 1) (c + 1) b _ (by omega) (by omega) hc ?_ ?_ ?_ ?_ ?_ <;> simp only [↓vp, vq0, vq1, vq2, vq3, vr0, vr1, vr2, vr3, vr4, vr5, vr6, vr7, vr8, vr9, vr10, vr11, vr12, vr13, vr14, vr15, vr16, vr17, vr18, vr19, vr20, vr21, vr22, vr23, vr24, vr25, vr26, vr27, vr28, vr29, vr30, vr31, vr32, vr33, vr34, opS, fpS, okP, pack, nAl, allocA, shId, leaves, fillA, fillR, splice, Nat.reduceLT, Nat.reduceEqDiff, Nat.reduceLeDiff, Nat.reduceAdd, Nat.reduceSub, Nat.reduceMul, Int.reduceBEq, Int.reduceBNe, Int.reduceLT, Int.reduceLE, Int.reduceEq, reduceIte, reduceCtorEq, h1, h2, h6, h7, h8, int, boolA]
    · cases e2 : cmpB n.items[i].key key == 0 with
      | true =>
        rw [if_neg e1, e2, Bool.or_true] at hc
        simp only [↓vp, vq0, vq1, vq2, vq3, vr0, vr1, vr2, vr3, vr4, vr5, vr6, vr7, vr8, vr9, vr10, vr11, vr12, vr13, vr14, vr15, vr16, vr17, vr18, vr19, vr20, vr21, vr22, vr23, vr24, vr25, vr26, vr27, vr28, vr29, vr30, vr31, vr32, vr33, vr34, opS, fpS, okP, pack, nAl, allocA, shId, leaves, fillA, fillR, splice, Nat.reduceLT, Nat.reduceEqDiff, Nat.reduceLeDiff, Nat.reduceAdd, Nat.reduceSub, Nat.reduceMul, Int.reduceBEq, Int.reduceBNe, Int.reduceLT, Int.reduceLE, Int.reduceEq, reduceIte, reduceCtorEq, hL, nodeC, itemC, boolA, int, lenI, lenK, h1, h2, h6, h7, h8, g, atI gi, cI gi, k25, hkey, hk, e1, e2, w1, w2]
        refine ih (i + 1) c true _ (by omega) (by omega) hc ?_ ?_ ?_ ?_ ?_ <;> simp only [↓vp, vq0, vq1, vq2, vq3, vr0, vr1, vr2, vr3, vr4, vr5, vr6, vr7, vr8, vr9, vr10, vr11, vr12, vr13, vr14, vr15, vr16, vr17, vr18, vr19, vr20, vr21, vr22, vr23, vr24, vr25, vr26, vr27, vr28, vr29, vr30, vr31, vr32, vr33, vr34, opS, fpS, okP, pack, nAl, allocA, shId, leaves, fillA, fillR, splice, Nat.reduceLT, Nat.reduceEqDiff, Nat.reduceLeDiff, Nat.reduceAdd, Nat.reduceSub, Nat.reduceMul, Int.reduceBEq, Int.reduceBNe, Int.reduceLT, Int.reduceLE, Int.reduceEq, reduceIte, reduceCtorEq, h1, h2, h6, h7, h8, int, boolA]
      | false =>
        rw [if_neg e1, e2, Bool.or_false] at hc
        simp only [↓vp, vq0, vq1, vq2, vq3, vr0, vr1, vr2, vr3, vr4, vr5, vr6, vr7, vr8, vr9, vr10, vr11, vr12, vr13, vr14, vr15, vr16, vr17, vr18, vr19, vr20, vr21, vr22, vr23, vr24, vr25, vr26, vr27, vr28, vr29, vr30, vr31, vr32, vr33, vr34, opS, fpS, okP, pack, nAl, allocA, shId, leaves, fillA, fillR, splice, Nat.reduceLT, Nat.reduceEqDiff, Nat.reduceLeDiff, Nat.reduceAdd, Nat.reduceSub, Nat.reduceMul, Int.reduceBEq, Int.reduceBNe, Int.reduceLT, Int.reduceLE, Int.reduceEq, reduceIte, reduceCtorEq, hL, nodeC, itemC, boolA, int, lenI, lenK, h1, h2, h6, h7, h8, g, atI gi, cI gi, k25, hkey, hk, e1, e2, w1, w2]
        refine ih (i + 1) c b _ (by omega) (by omega) hc ?_ ?_ ?_ ?_ ?_ <;> simp only [↓vp, vq0, vq1, vq2, vq3, vr0, vr1, vr2, vr3, vr4, vr5, vr6, vr7, vr8, vr9, vr10, vr11, vr12, vr13, vr14, vr15, vr16, vr17, vr18, vr19, vr20, vr21, vr22, vr23, vr24, vr25, vr26, vr27, vr28, vr29, vr30, vr31, vr32, vr33, vr34, opS, fpS, okP, pack, nAl, allocA, shId, leaves, fillA, fillR, splice, Nat.reduceLT, Nat.reduceEqDiff, Nat.reduceLeDiff, Nat.reduceAdd, Nat.reduceSub, Nat.reduceMul, Int.reduceBEq, Int.reduceBNe, Int.reduceLT, Int.reduceLE, Int.reduceEq, reduceIte, reduceCtorEq, h1, h2, h6, h7, h8, int, boolA]
theorem s49 (n : NodeM) (key : Bytes) (hn : okN n) (hk : okB key) (H : Heap) : callL ft (.fn (.func 49) [] []) [.agg (nodeC n), encB key] H = some (.tup [int (findM n.items key).1, boolA (findM n.items key).2], H) := by
  refine call_p (as' := [.agg (nodeC n), encB key]) rfl rfl (by simp) ?_
  unfold c49 r49
  simp only [↓vp, vq0, vq1, vq2, vq3, vr0, vr1, vr2, vr3, vr4, vr5, vr6, vr7, vr8, vr9, vr10, vr11, vr12, vr13, vr14, vr15, vr16, vr17, vr18, vr19, vr20, vr21, vr22, vr23, vr24, vr25, vr26, vr27, vr28, vr29, vr30, vr31, vr32, vr33, vr34, opS, fpS, okP, pack, nAl, allocA, shId, leaves, fillA, fillR, splice, Nat.reduceLT, Nat.reduceEqDiff, Nat.reduceLeDiff, Nat.reduceAdd, Nat.reduceSub, Nat.reduceMul, Int.reduceBEq, Int.reduceBNe, Int.reduceLT, Int.reduceLE, Int.reduceEq, reduceIte, reduceCtorEq, nodeC, boolA, one_I, one_K]
  refine l49 n key hn hk rfl (fun f' h6 h7 => ?_) n.items.length 0 0 false _ (by omega) (by omega) rfl ?_ ?_ ?_ ?_ ?_
  · unfold c49R1
    simp only [↓vp, vq0, vq1, vq2, vq3, vr0, vr1, vr2, vr3, vr4, vr5, vr6, vr7, vr8, vr9, vr10, vr11, vr12, vr13, vr14, vr15, vr16, vr17, vr18, vr19, vr20, vr21, vr22, vr23, vr24, vr25, vr26, vr27, vr28, vr29, vr30, vr31, vr32, vr33, vr34, opS, fpS, okP, pack, nAl, allocA, shId, leaves, fillA, fillR, splice, Nat.reduceLT, Nat.reduceEqDiff, Nat.reduceLeDiff, Nat.reduceAdd, Nat.reduceSub, Nat.reduceMul, Int.reduceBEq, Int.reduceBNe, Int.reduceLT, Int.reduceLE, Int.reduceEq, reduceIte, reduceCtorEq, h6, h7]
    refine ret2 rfl (by decide) (by decide) ?_
    simp only [↓vp, vq0, vq1, vq2, vq3, vr0, vr1, vr2, vr3, vr4, vr5, vr6, vr7, vr8, vr9, vr10, vr11, vr12, vr13, vr14, vr15, vr16, vr17, vr18, vr19, vr20, vr21, vr22, vr23, vr24, vr25, vr26, vr27, vr28, vr29, vr30, vr31, vr32, vr33, vr34, opS, fpS, okP, pack, nAl, allocA, shId, leaves, fillA, fillR, splice, Nat.reduceLT, Nat.reduceEqDiff, Nat.reduceLeDiff, Nat.reduceAdd, Nat.reduceSub, Nat.reduceMul, Int.reduceBEq, Int.reduceBNe, Int.reduceLT, Int.reduceLE, Int.reduceEq, reduceIte, reduceCtorEq]
    exact ⟨_, rfl⟩
  all_goals simp only [↓vp, vq0, vq1, vq2, vq3, vr0, vr1, vr2, vr3, vr4, vr5, vr6, vr7, vr8, vr9, vr10, vr11, vr12, vr13, vr14, vr15, vr16, vr17, vr18, vr19, vr20, vr21, vr22, vr23, vr24, vr25, vr26, vr27, vr28, vr29, vr30, vr31, vr32, vr33, vr34, opS, fpS, okP, pack, nAl, allocA, shId, leaves, fillA, fillR, splice, Nat.reduceLT, Nat.reduceEqDiff, Nat.reduceLeDiff, Nat.reduceAdd, Nat.reduceSub, Nat.reduceMul, Int.reduceBEq, Int.reduceBNe, Int.reduceLT, Int.reduceLE, Int.reduceEq, reduceIte, reduceCtorEq, int, boolA] <;> rfl

/-- By which kid a key's way goes on. -/
def sideF (key : Bytes) : Nat → Nat → List KidM → Nat
  | _, c, [] => c
  | i, c, x :: r => sideF key (i + 1) (if cmpB x.key key ≤ 0 then i else c) r
def sideM (l : List KidM) (key : Bytes) : Nat := sideF key 1 0 (l.drop 1)
theorem l50 (n : NodeM) (key : Bytes) (hn : okN n) (hk : okB key) {L : List Blk} {Q : AExit → Env → Heap → Prop} (hL : L[0]? = some (.box false (nodeC n)))
   (hex : ∀ f', f' 5 = int (sideM n.kids key) → Q (.exit 0) (mkE 25 f') (hx Heap.empty L)) :
   ∀ (d i c : Nat) (f : Nat → AV), (i + d = n.kids.length ∨ (d = 0 ∧ n.kids.length ≤ i)) → i ≤ n.kids.length + 1 → sideM n.kids key = sideF key i c (n.kids.drop i) → f 1 = encB key → f 2 = .ptr 0 0 0 → f 5 = int c → f 6 = int i →
    AW ft (.loop c50L0) (mkE 25 f) (hx Heap.empty L) Q := by
  intro d
  have hi := hn.k.n
  unfold MX at hi
  induction d with
  | zero =>
    intro i c f hd hci hc h1 h2 h5 h6
    have g : ((i : Int) < n.kids.length) = False := by simp; omega
    rw [AW_loop]
    unfold c50L0
    rw [List.drop_eq_nil_of_le (by omega)] at hc
    simp only [↓vp, vq0, vq1, vq2, vq3, vr0, vr1, vr2, vr3, vr4, vr5, vr6, vr7, vr8, vr9, vr10, vr11, vr12, vr13, vr14, vr15, vr16, vr17, vr18, vr19, vr20, vr21, vr22, vr23, vr24, vr25, vr26, vr27, vr28, vr29, vr30, vr31, vr32, vr33, vr34, opS, fpS, okP, pack, nAl, allocA, shId, leaves, fillA, fillR, splice, Nat.reduceLT, Nat.reduceEqDiff, Nat.reduceLeDiff, Nat.reduceAdd, Nat.reduceSub, Nat.reduceMul, Int.reduceBEq, Int.reduceBNe, Int.reduceLT, Int.reduceLE, Int.reduceEq, reduceIte, reduceCtorEq, hL, nodeC, boolA, int, lenI, lenK, h1, h2, h6, g]
    refine hex _ ?_
    simp only [↓vp, vq0, vq1, vq2, vq3, vr0, vr1, vr2, vr3, vr4, vr5, vr6, vr7, vr8, vr9, vr10, vr11, vr12, vr13, vr14, vr15, vr16, vr17, vr18, vr19, vr20, vr21, vr22, vr23, vr24, vr25, vr26, vr27, vr28, vr29, vr30, vr31, vr32, vr33, vr34, opS, fpS, okP, pack, nAl, allocA, shId, leaves, fillA, fillR, splice, Nat.reduceLT, Nat.reduceEqDiff, Nat.reduceLeDiff, Nat.reduceAdd, Nat.reduceSub, Nat.reduceMul, Int.reduceBEq, Int.reduceBNe, Int.reduceLT, Int.reduceLE, Int.reduceEq, reduceIte, reduceCtorEq, h5, hc, sideF]
  | succ d ih =>
    intro i c f hd hci hc h1 h2 h5 h6
    have g : ((i : Int) < n.kids.length) = True := by simp; omega
    have gi : i < n.kids.length := by omega
    have hkey := hn.k.at_ gi
    rw [AW_loop]
    unfold c50L0
    rw [List.drop_eq_getElem_cons gi, sideF] at hc
    have w1 := wrap_succ (show i < 9223372036854775807 by omega)
    by_cases e1 : cmpB n.kids[i].key key ≤ 0
    · rw [if_pos e1] at hc
      simp only [↓vp, vq0, vq1, vq2, vq3, vr0, vr1, vr2, vr3, vr4, vr5, vr6, vr7, vr8, vr9, vr10, vr11, vr12, vr13, vr14, vr15, vr16, vr17, vr18, vr19, vr20, vr21, vr22, vr23, vr24, vr25, vr26, vr27, vr28, vr29, vr30, vr31, vr32, vr33, vr34, opS, fpS, okP, pack, nAl, allocA, shId, leaves, fillA, fillR, splice, Nat.reduceLT, Nat.reduceEqDiff, Nat.reduceLeDiff, Nat.reduceAdd, Nat.reduceSub, Nat.reduceMul, Int.reduceBEq, Int.reduceBNe, Int.reduceLT, Int.reduceLE, Int.reduceEq, reduceIte, reduceCtorEq, hL, nodeC, kidC, boolA, int, lenI, lenK, h1, h2, h5, h6, g, atK gi, cK gi, k25, hkey, hk, e1, w1]
      refine ih (i + 1) i _ (by omega) (by omega) hc ?_ ?_ ?_ ?_ <;> simp only [↓vp, vq0, vq1, vq2, vq3, vr0, vr1, vr2, vr3, vr4, vr5, vr6, vr7, vr8, vr9, vr10, vr11, vr12, vr13, vr14, vr15, vr16, vr17, vr18, vr19, vr20, vr21, vr22, vr23, vr24, vr25, vr26, vr27, vr28, vr29, vr30, vr31, vr32, vr33, vr34, opS, fpS, okP, pack, nAl, allocA, shId, leaves, fillA, fillR, splice, Nat.reduceLT, Nat.reduceEqDiff, Nat.reduceLeDiff, Nat.reduceAdd, Nat.reduceSub, Nat.reduceMul, Int.reduceBEq, Int.reduceBNe, Int.reduceLT, Int.reduceLE, Int.reduceEq, reduceIte, reduceCtorEq, h1, h2, h5, h6, int, boolA]
    · rw [if_neg e1] at hc
      simp only [↓vp, vq0, vq1, vq2, vq3, vr0, vr1, vr2, vr3, vr4, vr5, vr6, vr7, vr8, vr9, vr10, vr11, vr12, vr13, vr14, vr15, vr16, vr17, vr18, vr19, vr20, vr21, vr22, vr23, vr24, vr25, vr26, vr27, vr28, vr29, vr30, vr31, vr32, vr33, vr34, opS, fpS, okP, pack, nAl, allocA, shId, leaves, fillA, fillR, splice, Nat.reduceLT, Nat.reduceEqDiff, Nat.reduceLeDiff, Nat.reduceAdd, Nat.reduceSub, Nat.reduceMul, Int.reduceBEq, Int.reduceBNe, Int.reduceLT, Int.reduceLE, Int.reduceEq, reduceIte, reduceCtorEq, hL, nodeC, kidC, boolA, int, lenI, lenK, h1, h2, h5, h6, g, atK gi, cK gi, k25, hkey, hk, e1, w1]
      refine ih (i + 1) c _ (by omega) (by omega) hc ?_ ?_ ?_ ?_ <;> simp only [↓vp, vq0, vq1, vq2, vq3, vr0, vr1, vr2, vr3, vr4, vr5, vr6, vr7, vr8, vr9, vr10, vr11, vr12, vr13, vr14, vr15, vr16, vr17, vr18, vr19, vr20, vr21, vr22, vr23, vr24, vr25, vr26, vr27, vr28, vr29, vr30, vr31, vr32, vr33, vr34, opS, fpS, okP, pack, nAl, allocA, shId, leaves, fillA, fillR, splice, Nat.reduceLT, Nat.reduceEqDiff, Nat.reduceLeDiff, Nat.reduceAdd, Nat.reduceSub, Nat.reduceMul, Int.reduceBEq, Int.reduceBNe, Int.reduceLT, Int.reduceLE, Int.reduceEq, reduceIte, reduceCtorEq, h1, h2, h5, h6, int, boolA]
theorem s50 (n : NodeM) (key : Bytes) (hn : okN n) (hk : okB key) (H : Heap) : callL ft (.fn (.func 50) [] []) [.agg (nodeC n), encB key] H = some (int (sideM n.kids key), H) := by
  refine call_p (as' := [.agg (nodeC n), encB key]) rfl rfl (by simp) ?_
  unfold c50 r50
  simp only [↓vp, vq0, vq1, vq2, vq3, vr0, vr1, vr2, vr3, vr4, vr5, vr6, vr7, vr8, vr9, vr10, vr11, vr12, vr13, vr14, vr15, vr16, vr17, vr18, vr19, vr20, vr21, vr22, vr23, vr24, vr25, vr26, vr27, vr28, vr29, vr30, vr31, vr32, vr33, vr34, opS, fpS, okP, pack, nAl, allocA, shId, leaves, fillA, fillR, splice, Nat.reduceLT, Nat.reduceEqDiff, Nat.reduceLeDiff, Nat.reduceAdd, Nat.reduceSub, Nat.reduceMul, Int.reduceBEq, Int.reduceBNe, Int.reduceLT, Int.reduceLE, Int.reduceEq, reduceIte, reduceCtorEq, nodeC, boolA, one_I, one_K]
  refine l50 n key hn hk rfl (fun f' h5 => ?_) (n.kids.length - 1) 1 0 _ (by omega) (by omega) rfl ?_ ?_ ?_ ?_
  · unfold c50R1
    simp only [↓vp, vq0, vq1, vq2, vq3, vr0, vr1, vr2, vr3, vr4, vr5, vr6, vr7, vr8, vr9, vr10, vr11, vr12, vr13, vr14, vr15, vr16, vr17, vr18, vr19, vr20, vr21, vr22, vr23, vr24, vr25, vr26, vr27, vr28, vr29, vr30, vr31, vr32, vr33, vr34, opS, fpS, okP, pack, nAl, allocA, shId, leaves, fillA, fillR, splice, Nat.reduceLT, Nat.reduceEqDiff, Nat.reduceLeDiff, Nat.reduceAdd, Nat.reduceSub, Nat.reduceMul, Int.reduceBEq, Int.reduceBNe, Int.reduceLT, Int.reduceLE, Int.reduceEq, reduceIte, reduceCtorEq, h5]
    refine ret1 rfl (by decide) ?_
    simp only [↓vp, vq0, vq1, vq2, vq3, vr0, vr1, vr2, vr3, vr4, vr5, vr6, vr7, vr8, vr9, vr10, vr11, vr12, vr13, vr14, vr15, vr16, vr17, vr18, vr19, vr20, vr21, vr22, vr23, vr24, vr25, vr26, vr27, vr28, vr29, vr30, vr31, vr32, vr33, vr34, opS, fpS, okP, pack, nAl, allocA, shId, leaves, fillA, fillR, splice, Nat.reduceLT, Nat.reduceEqDiff, Nat.reduceLeDiff, Nat.reduceAdd, Nat.reduceSub, Nat.reduceMul, Int.reduceBEq, Int.reduceBNe, Int.reduceLT, Int.reduceLE, Int.reduceEq, reduceIte, reduceCtorEq]
    exact ⟨_, rfl⟩
  all_goals simp only [↓vp, vq0, vq1, vq2, vq3, vr0, vr1, vr2, vr3, vr4, vr5, vr6, vr7, vr8, vr9, vr10, vr11, vr12, vr13, vr14, vr15, vr16, vr17, vr18, vr19, vr20, vr21, vr22, vr23, vr24, vr25, vr26, vr27, vr28, vr29, vr30, vr31, vr32, vr33, vr34, opS, fpS, okP, pack, nAl, allocA, shId, leaves, fillA, fillR, splice, Nat.reduceLT, Nat.reduceEqDiff, Nat.reduceLeDiff, Nat.reduceAdd, Nat.reduceSub, Nat.reduceMul, Int.reduceBEq, Int.reduceBNe, Int.reduceLT, Int.reduceLE, Int.reduceEq, reduceIte, reduceCtorEq, int, boolA] <;> rfl

/-! ### a node by its number -/
def nodeM (l : List NamedM) (ref : Int) : NodeM × Int := match l.find? (fun x => x.ref == ref) with
  | some x => (x.n, 0)
  | none => (⟨false, [], []⟩, 11)
theorem l46 (l : List NamedM) (ref : Int) (hl : okL l) {Q : AExit → Env → Heap → Prop} (z1 z2 z3 : AV)
   (hex : ∀ f', f' 4 = .ptr 0 0 0 → nodeM l ref = (⟨false, [], []⟩, 11) → Q (.exit 0) (mkE 26 f') (hx Heap.empty [.box false [z1, z2, z3]]))
   (hret : ∀ f' n, nodeM l ref = (n, 0) → f' 4 = .ptr 0 0 0 → f' 5 = int 0 → Q .ret (mkE 26 f') (hx Heap.empty [.box false (nodeC n)])) :
   ∀ (d i : Nat) (f : Nat → AV), i + d = l.length → nodeM l ref = nodeM (l.drop i) ref → f 0 = encL l → f 1 = int ref → f 4 = .ptr 0 0 0 → f 6 = int i →
    AW ft (.loop c46L0) (mkE 26 f) (hx Heap.empty [.box false [z1, z2, z3]]) Q := by
  intro d
  have hi := hl.n
  unfold MX at hi
  induction d with
  | zero =>
    intro i f hd hc h0 h1 h4 h6
    have g : ((i : Int) < l.length) = False := by simp; omega
    rw [AW_loop]
    unfold c46L0
    rw [List.drop_eq_nil_of_le (by omega)] at hc
    simp only [↓vp, vq0, vq1, vq2, vq3, vr0, vr1, vr2, vr3, vr4, vr5, vr6, vr7, vr8, vr9, vr10, vr11, vr12, vr13, vr14, vr15, vr16, vr17, vr18, vr19, vr20, vr21, vr22, vr23, vr24, vr25, vr26, vr27, vr28, vr29, vr30, vr31, vr32, vr33, vr34, opS, fpS, okP, pack, nAl, allocA, shId, leaves, fillA, fillR, splice, Nat.reduceLT, Nat.reduceEqDiff, Nat.reduceLeDiff, Nat.reduceAdd, Nat.reduceSub, Nat.reduceMul, Int.reduceBEq, Int.reduceBNe, Int.reduceLT, Int.reduceLE, Int.reduceEq, reduceIte, reduceCtorEq, int, lenL, h0, h1, h4, h6, g]
    refine hex _ ?_ hc
    simp only [↓vp, vq0, vq1, vq2, vq3, vr0, vr1, vr2, vr3, vr4, vr5, vr6, vr7, vr8, vr9, vr10, vr11, vr12, vr13, vr14, vr15, vr16, vr17, vr18, vr19, vr20, vr21, vr22, vr23, vr24, vr25, vr26, vr27, vr28, vr29, vr30, vr31, vr32, vr33, vr34, opS, fpS, okP, pack, nAl, allocA, shId, leaves, fillA, fillR, splice, Nat.reduceLT, Nat.reduceEqDiff, Nat.reduceLeDiff, Nat.reduceAdd, Nat.reduceSub, Nat.reduceMul, Int.reduceBEq, Int.reduceBNe, Int.reduceLT, Int.reduceLE, Int.reduceEq, reduceIte, reduceCtorEq, h4]
  | succ d ih =>
    intro i f hd hc h0 h1 h4 h6
    have g : ((i : Int) < l.length) = True := by simp; omega
    have gi : i < l.length := by omega
    rw [AW_loop]
    unfold c46L0
    rw [List.drop_eq_getElem_cons gi] at hc
    have w1 := wrap_succ (show i < 9223372036854775807 by omega)
    cases e1 : l[i].ref == ref with
    | true =>
      simp only [nodeM, List.find?_cons, e1] at hc
      simp only [↓vp, vq0, vq1, vq2, vq3, vr0, vr1, vr2, vr3, vr4, vr5, vr6, vr7, vr8, vr9, vr10, vr11, vr12, vr13, vr14, vr15, vr16, vr17, vr18, vr19, vr20, vr21, vr22, vr23, vr24, vr25, vr26, vr27, vr28, vr29, vr30, vr31, vr32, vr33, vr34, opS, fpS, okP, pack, nAl, allocA, shId, leaves, fillA, fillR, splice, Nat.reduceLT, Nat.reduceEqDiff, Nat.reduceLeDiff, Nat.reduceAdd, Nat.reduceSub, Nat.reduceMul, Int.reduceBEq, Int.reduceBNe, Int.reduceLT, Int.reduceLE, Int.reduceEq, reduceIte, reduceCtorEq, int, lenL, h0, h1, h4, h6, g, atL gi, cL gi, namedC, nodeC, e1, w1, one_I, one_K, boolA, splice]
      refine hret _ l[i].n hc ?_ ?_ <;> simp only [↓vp, vq0, vq1, vq2, vq3, vr0, vr1, vr2, vr3, vr4, vr5, vr6, vr7, vr8, vr9, vr10, vr11, vr12, vr13, vr14, vr15, vr16, vr17, vr18, vr19, vr20, vr21, vr22, vr23, vr24, vr25, vr26, vr27, vr28, vr29, vr30, vr31, vr32, vr33, vr34, opS, fpS, okP, pack, nAl, allocA, shId, leaves, fillA, fillR, splice, Nat.reduceLT, Nat.reduceEqDiff, Nat.reduceLeDiff, Nat.reduceAdd, Nat.reduceSub, Nat.reduceMul, Int.reduceBEq, Int.reduceBNe, Int.reduceLT, Int.reduceLE, Int.reduceEq, reduceIte, reduceCtorEq, h4, int]
    | false =>
      simp only [nodeM, List.find?_cons, e1] at hc
      simp only [↓vp, vq0, vq1, vq2, vq3, vr0, vr1, vr2, vr3, vr4, vr5, vr6, vr7, vr8, vr9, vr10, vr11, vr12, vr13, vr14, vr15, vr16, vr17, vr18, vr19, vr20, vr21, vr22, vr23, vr24, vr25, vr26, vr27, vr28, vr29, vr30, vr31, vr32, vr33, vr34, opS, fpS, okP, pack, nAl, allocA, shId, leaves, fillA, fillR, splice, Nat.reduceLT, Nat.reduceEqDiff, Nat.reduceLeDiff, Nat.reduceAdd, Nat.reduceSub, Nat.reduceMul, Int.reduceBEq, Int.reduceBNe, Int.reduceLT, Int.reduceLE, Int.reduceEq, reduceIte, reduceCtorEq, int, lenL, h0, h1, h4, h6, g, atL gi, cL gi, namedC, nodeC, e1, w1]
      refine ih (i + 1) _ (by omega) hc ?_ ?_ ?_ ?_ <;> simp only [↓vp, vq0, vq1, vq2, vq3, vr0, vr1, vr2, vr3, vr4, vr5, vr6, vr7, vr8, vr9, vr10, vr11, vr12, vr13, vr14, vr15, vr16, vr17, vr18, vr19, vr20, vr21, vr22, vr23, vr24, vr25, vr26, vr27, vr28, vr29, vr30, vr31, vr32, vr33, vr34, opS, fpS, okP, pack, nAl, allocA, shId, leaves, fillA, fillR, splice, Nat.reduceLT, Nat.reduceEqDiff, Nat.reduceLeDiff, Nat.reduceAdd, Nat.reduceSub, Nat.reduceMul, Int.reduceBEq, Int.reduceBNe, Int.reduceLT, Int.reduceLE, Int.reduceEq, reduceIte, reduceCtorEq, h0, h1, h4, int]
theorem s46 (l : List NamedM) (ref : Int) (hl : okL l) (H : Heap) : callL ft (.fn (.func 46) [] []) [encL l, int ref] H = some (.tup [.agg (nodeC (nodeM l ref).1), int (nodeM l ref).2], H) := by
  refine call_p (as' := [encL l, int ref]) rfl rfl (by simp) ?_
  unfold c46 r46
  simp only [↓vp, vq0, vq1, vq2, vq3, vr0, vr1, vr2, vr3, vr4, vr5, vr6, vr7, vr8, vr9, vr10, vr11, vr12, vr13, vr14, vr15, vr16, vr17, vr18, vr19, vr20, vr21, vr22, vr23, vr24, vr25, vr26, vr27, vr28, vr29, vr30, vr31, vr32, vr33, vr34, opS, fpS, okP, pack, nAl, allocA, shId, leaves, fillA, fillR, splice, Nat.reduceLT, Nat.reduceEqDiff, Nat.reduceLeDiff, Nat.reduceAdd, Nat.reduceSub, Nat.reduceMul, Int.reduceBEq, Int.reduceBNe, Int.reduceLT, Int.reduceLE, Int.reduceEq, reduceIte, reduceCtorEq]
  refine l46 l ref hl _ _ _ (fun f' h4 hm => ?_) (fun f' n hm h4 h5 => ?_) l.length 0 _ (by omega) rfl ?_ ?_ ?_ ?_
  · unfold c46R1
    simp only [↓vp, vq0, vq1, vq2, vq3, vr0, vr1, vr2, vr3, vr4, vr5, vr6, vr7, vr8, vr9, vr10, vr11, vr12, vr13, vr14, vr15, vr16, vr17, vr18, vr19, vr20, vr21, vr22, vr23, vr24, vr25, vr26, vr27, vr28, vr29, vr30, vr31, vr32, vr33, vr34, opS, fpS, okP, pack, nAl, allocA, shId, leaves, fillA, fillR, splice, Nat.reduceLT, Nat.reduceEqDiff, Nat.reduceLeDiff, Nat.reduceAdd, Nat.reduceSub, Nat.reduceMul, Int.reduceBEq, Int.reduceBNe, Int.reduceLT, Int.reduceLE, Int.reduceEq, reduceIte, reduceCtorEq, h4, splice, RetP_iff, resT, resC, resN, hm]
    exact ⟨_, _, rfl, rfl⟩
  · simp only [↓vp, vq0, vq1, vq2, vq3, vr0, vr1, vr2, vr3, vr4, vr5, vr6, vr7, vr8, vr9, vr10, vr11, vr12, vr13, vr14, vr15, vr16, vr17, vr18, vr19, vr20, vr21, vr22, vr23, vr24, vr25, vr26, vr27, vr28, vr29, vr30, vr31, vr32, vr33, vr34, opS, fpS, okP, pack, nAl, allocA, shId, leaves, fillA, fillR, splice, Nat.reduceLT, Nat.reduceEqDiff, Nat.reduceLeDiff, Nat.reduceAdd, Nat.reduceSub, Nat.reduceMul, Int.reduceBEq, Int.reduceBNe, Int.reduceLT, Int.reduceLE, Int.reduceEq, reduceIte, reduceCtorEq, h4, h5, RetP_iff, resT, resC, resN, hm, nodeC]
    exact ⟨_, _, rfl, rfl⟩
  all_goals rfl
end Go.VI

/- VI, part SC: few nodes; nodes alike. -/
set_option linter.unusedVariables false
set_option linter.unusedSimpArgs false
set_option maxRecDepth 100000
namespace Go.VI
attribute [local congr] AW_congr OW_congr DW_congr NW_congr VW_congr GW_congr PW_congr KW_congr ite_congr' GV_congr CV_congr

def sumM : Int → List NamedM → Int
  | s, [] => s
  | s, x :: r => sumM (IntKind.i64.wrap (s + IntKind.i64.wrap ((x.n.items.length : Int) + x.n.kids.length))) r
def fewM (l : List NamedM) : Bool := decide ((l.length : Int) ≤ 40) && decide (sumM 0 l ≤ 200)
theorem l13 (l : List NamedM) (hl : okL l) {Q : AExit → Env → Heap → Prop} (hex : ∀ f' K, f' 0 = encL l → f' 3 = int (sumM 0 l) → Q (.exit 0) (mkE 31 f') (hx K [])) :
   ∀ (d i : Nat) (s : Int) (K : Heap) (f : Nat → AV), i + d = l.length → sumM 0 l = sumM s (l.drop i) → f 0 = encL l → f 6 = encL l → f 7 = int l.length → f 3 = int s → f 8 = int i →
    AW ft (.loop c13L0) (mkE 31 f) (hx K []) Q := by
  intro d
  have hi := hl.n
  unfold MX at hi
  induction d with
  | zero =>
    intro i s K f hd hc h0 h6 h7 h3 h8
    have g : ((i : Int) < l.length) = False := by simp; omega
    rw [AW_loop]
    unfold c13L0
    rw [List.drop_eq_nil_of_le (by omega)] at hc
    simp only [↓vp, vq0, vq1, vq2, vq3, vr0, vr1, vr2, vr3, vr4, vr5, vr6, vr7, vr8, vr9, vr10, vr11, vr12, vr13, vr14, vr15, vr16, vr17, vr18, vr19, vr20, vr21, vr22, vr23, vr24, vr25, vr26, vr27, vr28, vr29, vr30, vr31, vr32, vr33, vr34, opS, fpS, okP, pack, nAl, allocA, shId, leaves, fillA, fillR, splice, Nat.reduceLT, Nat.reduceEqDiff, Nat.reduceLeDiff, Nat.reduceAdd, Nat.reduceSub, Nat.reduceMul, Int.reduceBEq, Int.reduceBNe, Int.reduceLT, Int.reduceLE, Int.reduceEq, reduceIte, reduceCtorEq, int, h7, h8, g]
    refine hex _ _ ?_ ?_
    · simp only [↓vp, vq0, vq1, vq2, vq3, vr0, vr1, vr2, vr3, vr4, vr5, vr6, vr7, vr8, vr9, vr10, vr11, vr12, vr13, vr14, vr15, vr16, vr17, vr18, vr19, vr20, vr21, vr22, vr23, vr24, vr25, vr26, vr27, vr28, vr29, vr30, vr31, vr32, vr33, vr34, opS, fpS, okP, pack, nAl, allocA, shId, leaves, fillA, fillR, splice, Nat.reduceLT, Nat.reduceEqDiff, Nat.reduceLeDiff, Nat.reduceAdd, Nat.reduceSub, Nat.reduceMul, Int.reduceBEq, Int.reduceBNe, Int.reduceLT, Int.reduceLE, Int.reduceEq, reduceIte, reduceCtorEq, h0]
    · simp only [↓vp, vq0, vq1, vq2, vq3, vr0, vr1, vr2, vr3, vr4, vr5, vr6, vr7, vr8, vr9, vr10, vr11, vr12, vr13, vr14, vr15, vr16, vr17, vr18, vr19, vr20, vr21, vr22, vr23, vr24, vr25, vr26, vr27, vr28, vr29, vr30, vr31, vr32, vr33, vr34, opS, fpS, okP, pack, nAl, allocA, shId, leaves, fillA, fillR, splice, Nat.reduceLT, Nat.reduceEqDiff, Nat.reduceLeDiff, Nat.reduceAdd, Nat.reduceSub, Nat.reduceMul, Int.reduceBEq, Int.reduceBNe, Int.reduceLT, Int.reduceLE, Int.reduceEq, reduceIte, reduceCtorEq, h3, hc, sumM]
  | succ d ih =>
    intro i s K f hd hc h0 h6 h7 h3 h8
    have g : ((i : Int) < l.length) = True := by simp; omega
    have gi : i < l.length := by omega
    rw [AW_loop]
    unfold c13L0
    rw [List.drop_eq_getElem_cons gi, sumM] at hc
    have w1 := wrap_succ (show i < 9223372036854775807 by omega)
    simp only [↓vp, vq0, vq1, vq2, vq3, vr0, vr1, vr2, vr3, vr4, vr5, vr6, vr7, vr8, vr9, vr10, vr11, vr12, vr13, vr14, vr15, vr16, vr17, vr18, vr19, vr20, vr21, vr22, vr23, vr24, vr25, vr26, vr27, vr28, vr29, vr30, vr31, vr32, vr33, vr34, opS, fpS, okP, pack, nAl, allocA, shId, leaves, fillA, fillR, splice, Nat.reduceLT, Nat.reduceEqDiff, Nat.reduceLeDiff, Nat.reduceAdd, Nat.reduceSub, Nat.reduceMul, Int.reduceBEq, Int.reduceBNe, Int.reduceLT, Int.reduceLE, Int.reduceEq, reduceIte, reduceCtorEq, int, boolA, lenI, lenK, h0, h3, h6, h7, h8, g, atL gi, cL gi, namedC, nodeC, one_I, one_K, w1]
    rw [← hx_nil (hx K _)]
    refine ih (i + 1) _ _ _ (by omega) hc ?_ ?_ ?_ ?_ ?_ <;> simp only [↓vp, vq0, vq1, vq2, vq3, vr0, vr1, vr2, vr3, vr4, vr5, vr6, vr7, vr8, vr9, vr10, vr11, vr12, vr13, vr14, vr15, vr16, vr17, vr18, vr19, vr20, vr21, vr22, vr23, vr24, vr25, vr26, vr27, vr28, vr29, vr30, vr31, vr32, vr33, vr34, opS, fpS, okP, pack, nAl, allocA, shId, leaves, fillA, fillR, splice, Nat.reduceLT, Nat.reduceEqDiff, Nat.reduceLeDiff, Nat.reduceAdd, Nat.reduceSub, Nat.reduceMul, Int.reduceBEq, Int.reduceBNe, Int.reduceLT, Int.reduceLE, Int.reduceEq, reduceIte, reduceCtorEq, h0, h3, h6, h7, int]
theorem s13 (l : List NamedM) (hl : okL l) (H : Heap) : callL ft (.fn (.func 13) [] []) [encL l] H = some (boolA (fewM l), H) := by
  refine call_p (as' := [encL l]) rfl rfl (by simp) ?_
  unfold c13 r13
  simp only [↓vp, vq0, vq1, vq2, vq3, vr0, vr1, vr2, vr3, vr4, vr5, vr6, vr7, vr8, vr9, vr10, vr11, vr12, vr13, vr14, vr15, vr16, vr17, vr18, vr19, vr20, vr21, vr22, vr23, vr24, vr25, vr26, vr27, vr28, vr29, vr30, vr31, vr32, vr33, vr34, opS, fpS, okP, pack, nAl, allocA, shId, leaves, fillA, fillR, splice, Nat.reduceLT, Nat.reduceEqDiff, Nat.reduceLeDiff, Nat.reduceAdd, Nat.reduceSub, Nat.reduceMul, Int.reduceBEq, Int.reduceBNe, Int.reduceLT, Int.reduceLE, Int.reduceEq, reduceIte, reduceCtorEq, lenL]
  refine l13 l hl (fun f' K h0 h3 => ?_) l.length 0 0 _ _ (by omega) rfl ?_ ?_ ?_ ?_ ?_
  · unfold c13R1
    cases e : decide ((l.length : Int) ≤ 40) with
    | true =>
      simp only [↓vp, vq0, vq1, vq2, vq3, vr0, vr1, vr2, vr3, vr4, vr5, vr6, vr7, vr8, vr9, vr10, vr11, vr12, vr13, vr14, vr15, vr16, vr17, vr18, vr19, vr20, vr21, vr22, vr23, vr24, vr25, vr26, vr27, vr28, vr29, vr30, vr31, vr32, vr33, vr34, opS, fpS, okP, pack, nAl, allocA, shId, leaves, fillA, fillR, splice, Nat.reduceLT, Nat.reduceEqDiff, Nat.reduceLeDiff, Nat.reduceAdd, Nat.reduceSub, Nat.reduceMul, Int.reduceBEq, Int.reduceBNe, Int.reduceLT, Int.reduceLE, Int.reduceEq, reduceIte, reduceCtorEq, h0, h3, lenL, int, e]
      refine ret1 rfl (by decide) ?_
      simp only [↓vp, vq0, vq1, vq2, vq3, vr0, vr1, vr2, vr3, vr4, vr5, vr6, vr7, vr8, vr9, vr10, vr11, vr12, vr13, vr14, vr15, vr16, vr17, vr18, vr19, vr20, vr21, vr22, vr23, vr24, vr25, vr26, vr27, vr28, vr29, vr30, vr31, vr32, vr33, vr34, opS, fpS, okP, pack, nAl, allocA, shId, leaves, fillA, fillR, splice, Nat.reduceLT, Nat.reduceEqDiff, Nat.reduceLeDiff, Nat.reduceAdd, Nat.reduceSub, Nat.reduceMul, Int.reduceBEq, Int.reduceBNe, Int.reduceLT, Int.reduceLE, Int.reduceEq, reduceIte, reduceCtorEq, fewM, e]
      exact ⟨_, rfl⟩
    | false =>
      simp only [↓vp, vq0, vq1, vq2, vq3, vr0, vr1, vr2, vr3, vr4, vr5, vr6, vr7, vr8, vr9, vr10, vr11, vr12, vr13, vr14, vr15, vr16, vr17, vr18, vr19, vr20, vr21, vr22, vr23, vr24, vr25, vr26, vr27, vr28, vr29, vr30, vr31, vr32, vr33, vr34, opS, fpS, okP, pack, nAl, allocA, shId, leaves, fillA, fillR, splice, Nat.reduceLT, Nat.reduceEqDiff, Nat.reduceLeDiff, Nat.reduceAdd, Nat.reduceSub, Nat.reduceMul, Int.reduceBEq, Int.reduceBNe, Int.reduceLT, Int.reduceLE, Int.reduceEq, reduceIte, reduceCtorEq, h0, h3, lenL, int, e]
      refine ret1 rfl (by decide) ?_
      simp only [↓vp, vq0, vq1, vq2, vq3, vr0, vr1, vr2, vr3, vr4, vr5, vr6, vr7, vr8, vr9, vr10, vr11, vr12, vr13, vr14, vr15, vr16, vr17, vr18, vr19, vr20, vr21, vr22, vr23, vr24, vr25, vr26, vr27, vr28, vr29, vr30, vr31, vr32, vr33, vr34, opS, fpS, okP, pack, nAl, allocA, shId, leaves, fillA, fillR, splice, Nat.reduceLT, Nat.reduceEqDiff, Nat.reduceLeDiff, Nat.reduceAdd, Nat.reduceSub, Nat.reduceMul, Int.reduceBEq, Int.reduceBNe, Int.reduceLT, Int.reduceLE, Int.reduceEq, reduceIte, reduceCtorEq, fewM, e, Bool.false_and]
      exact ⟨_, rfl⟩
  all_goals first | rfl | (simp only [↓vp, vq0, vq1, vq2, vq3, vr0, vr1, vr2, vr3, vr4, vr5, vr6, vr7, vr8, vr9, vr10, vr11, vr12, vr13, vr14, vr15, vr16, vr17, vr18, vr19, vr20, vr21, vr22, vr23, vr24, vr25, vr26, vr27, vr28, vr29, vr30, vr31, vr32, vr33, vr34, opS, fpS, okP, pack, nAl, allocA, shId, leaves, fillA, fillR, splice, Nat.reduceLT, Nat.reduceEqDiff, Nat.reduceLeDiff, Nat.reduceAdd, Nat.reduceSub, Nat.reduceMul, Int.reduceBEq, Int.reduceBNe, Int.reduceLT, Int.reduceLE, Int.reduceEq, reduceIte, reduceCtorEq, da, int, boolA]; done)

/-! ### nodes alike -/
theorem k23 {x y : ItemM} (h1 : okIt x) (h2 : okIt y) {K : Heap} {L : List Blk} {Q : AV → Heap → Prop} : KW ft (.fn (.func 23) [] []) [.agg (itemC x), .agg (itemC y)] (hx K L) Q ↔ Q (boolA (sameI x y)) (hx K L) := KW_of (s23 x y h1 h2 _)
def sameIs : List ItemM → List ItemM → Bool
  | x :: a, y :: b => sameI x y && sameIs a b
  | _, _ => true
def sameK (x y : KidM) : Bool := x.ref == y.ref && cmpB x.key y.key == 0
def sameKs : List KidM → List KidM → Bool
  | x :: a, y :: b => sameK x y && sameKs a b
  | _, _ => true
def sameN (a b : NodeM) : Bool := a.leaf == b.leaf && a.items.length == b.items.length && a.kids.length == b.kids.length && sameIs a.items b.items && sameKs a.kids b.kids
theorem l52a (a b : NodeM) (ha : okN a) (hb : okN b) (hl : a.items.length = b.items.length) {L : List Blk} {Q : AExit → Env → Heap → Prop} (hL : L[0]? = some (.box false (nodeC a))) (hL1 : L[1]? = some (.box false (nodeC b)))
   (hex : ∀ f' L', L'[0]? = some (.box false (nodeC a)) → L'[1]? = some (.box false (nodeC b)) → f' 2 = .ptr 0 0 0 → f' 3 = .ptr 1 0 0 → sameIs a.items b.items = true → Q (.exit 0) (mkE 85 f') (hx Heap.empty L'))
   (hret : ∀ f' L', sameIs a.items b.items = false → f' 4 = boolA false → Q .ret (mkE 85 f') (hx Heap.empty L')) :
   ∀ (d i : Nat) (f : Nat → AV), i + d = a.items.length → sameIs a.items b.items = sameIs (a.items.drop i) (b.items.drop i) → f 2 = .ptr 0 0 0 → f 3 = .ptr 1 0 0 → f 5 = int i →
    AW ft (.loop c52L0) (mkE 85 f) (hx Heap.empty L) Q := by
  intro d
  have hi := ha.i.n
  unfold MX at hi
  induction d with
  | zero =>
    intro i f hd hc h2 h3 h5
    have g : ((i : Int) < a.items.length) = False := by simp; omega
    rw [AW_loop]
    unfold c52L0
    rw [List.drop_eq_nil_of_le (by omega)] at hc
    simp only [↓vp, vq0, vq1, vq2, vq3, vr0, vr1, vr2, vr3, vr4, vr5, vr6, vr7, vr8, vr9, vr10, vr11, vr12, vr13, vr14, vr15, vr16, vr17, vr18, vr19, vr20, vr21, vr22, vr23, vr24, vr25, vr26, vr27, vr28, vr29, vr30, vr31, vr32, vr33, vr34, opS, fpS, okP, pack, nAl, allocA, shId, leaves, fillA, fillR, splice, Nat.reduceLT, Nat.reduceEqDiff, Nat.reduceLeDiff, Nat.reduceAdd, Nat.reduceSub, Nat.reduceMul, Int.reduceBEq, Int.reduceBNe, Int.reduceLT, Int.reduceLE, Int.reduceEq, reduceIte, reduceCtorEq, hL, nodeC, int, boolA, lenI, h2, h3, h5, g]
    refine hex _ _ hL hL1 ?_ ?_ (by rw [hc]; rfl) <;> simp only [↓vp, vq0, vq1, vq2, vq3, vr0, vr1, vr2, vr3, vr4, vr5, vr6, vr7, vr8, vr9, vr10, vr11, vr12, vr13, vr14, vr15, vr16, vr17, vr18, vr19, vr20, vr21, vr22, vr23, vr24, vr25, vr26, vr27, vr28, vr29, vr30, vr31, vr32, vr33, vr34, opS, fpS, okP, pack, nAl, allocA, shId, leaves, fillA, fillR, splice, Nat.reduceLT, Nat.reduceEqDiff, Nat.reduceLeDiff, Nat.reduceAdd, Nat.reduceSub, Nat.reduceMul, Int.reduceBEq, Int.reduceBNe, Int.reduceLT, Int.reduceLE, Int.reduceEq, reduceIte, reduceCtorEq, h2, h3]
  | succ d ih =>
    intro i f hd hc h2 h3 h5
    have g : ((i : Int) < a.items.length) = True := by simp; omega
    have gi : i < a.items.length := by omega
    have gj : i < b.items.length := by omega
    have o1 := ha.i.at_ gi
    have o2 := hb.i.at_ gj
    rw [AW_loop]
    unfold c52L0
    rw [List.drop_eq_getElem_cons gi, List.drop_eq_getElem_cons gj, sameIs] at hc
    have w1 := wrap_succ (show i < 9223372036854775807 by omega)
    cases e1 : sameI a.items[i] b.items[i] with
    | false =>
      simp only [↓vp, vq0, vq1, vq2, vq3, vr0, vr1, vr2, vr3, vr4, vr5, vr6, vr7, vr8, vr9, vr10, vr11, vr12, vr13, vr14, vr15, vr16, vr17, vr18, vr19, vr20, vr21, vr22, vr23, vr24, vr25, vr26, vr27, vr28, vr29, vr30, vr31, vr32, vr33, vr34, opS, fpS, okP, pack, nAl, allocA, shId, leaves, fillA, fillR, splice, Nat.reduceLT, Nat.reduceEqDiff, Nat.reduceLeDiff, Nat.reduceAdd, Nat.reduceSub, Nat.reduceMul, Int.reduceBEq, Int.reduceBNe, Int.reduceLT, Int.reduceLE, Int.reduceEq, reduceIte, reduceCtorEq, da, int, boolA, hL, hL1, h2, h3, h5, g, atI gi, cI gi, atI gj, cI gj, k23, o1, o2, e1]
      refine hret _ _ (by rw [hc, e1, Bool.false_and]) ?_
      simp only [↓vp, vq0, vq1, vq2, vq3, vr0, vr1, vr2, vr3, vr4, vr5, vr6, vr7, vr8, vr9, vr10, vr11, vr12, vr13, vr14, vr15, vr16, vr17, vr18, vr19, vr20, vr21, vr22, vr23, vr24, vr25, vr26, vr27, vr28, vr29, vr30, vr31, vr32, vr33, vr34, opS, fpS, okP, pack, nAl, allocA, shId, leaves, fillA, fillR, splice, Nat.reduceLT, Nat.reduceEqDiff, Nat.reduceLeDiff, Nat.reduceAdd, Nat.reduceSub, Nat.reduceMul, Int.reduceBEq, Int.reduceBNe, Int.reduceLT, Int.reduceLE, Int.reduceEq, reduceIte, reduceCtorEq, da, int, boolA]
    | true =>
      simp only [↓vp, vq0, vq1, vq2, vq3, vr0, vr1, vr2, vr3, vr4, vr5, vr6, vr7, vr8, vr9, vr10, vr11, vr12, vr13, vr14, vr15, vr16, vr17, vr18, vr19, vr20, vr21, vr22, vr23, vr24, vr25, vr26, vr27, vr28, vr29, vr30, vr31, vr32, vr33, vr34, opS, fpS, okP, pack, nAl, allocA, shId, leaves, fillA, fillR, splice, Nat.reduceLT, Nat.reduceEqDiff, Nat.reduceLeDiff, Nat.reduceAdd, Nat.reduceSub, Nat.reduceMul, Int.reduceBEq, Int.reduceBNe, Int.reduceLT, Int.reduceLE, Int.reduceEq, reduceIte, reduceCtorEq, da, int, boolA, hL, hL1, h2, h3, h5, g, atI gi, cI gi, atI gj, cI gj, k23, o1, o2, e1, w1]
      refine ih (i + 1) _ (by omega) (by rw [hc, e1, Bool.true_and]) ?_ ?_ ?_ <;> simp only [↓vp, vq0, vq1, vq2, vq3, vr0, vr1, vr2, vr3, vr4, vr5, vr6, vr7, vr8, vr9, vr10, vr11, vr12, vr13, vr14, vr15, vr16, vr17, vr18, vr19, vr20, vr21, vr22, vr23, vr24, vr25, vr26, vr27, vr28, vr29, vr30, vr31, vr32, vr33, vr34, opS, fpS, okP, pack, nAl, allocA, shId, leaves, fillA, fillR, splice, Nat.reduceLT, Nat.reduceEqDiff, Nat.reduceLeDiff, Nat.reduceAdd, Nat.reduceSub, Nat.reduceMul, Int.reduceBEq, Int.reduceBNe, Int.reduceLT, Int.reduceLE, Int.reduceEq, reduceIte, reduceCtorEq, da, int, boolA, h2, h3]
theorem l52b (a b : NodeM) (ha : okN a) (hb : okN b) (hl : a.kids.length = b.kids.length) {L : List Blk} {Q : AExit → Env → Heap → Prop} (hL : L[0]? = some (.box false (nodeC a))) (hL1 : L[1]? = some (.box false (nodeC b)))
   (hex : ∀ f', sameKs a.kids b.kids = true → Q (.exit 2) (mkE 85 f') (hx Heap.empty L))
   (hret : ∀ f', sameKs a.kids b.kids = false → f' 4 = boolA false → Q .ret (mkE 85 f') (hx Heap.empty L)) :
   ∀ (d i : Nat) (f : Nat → AV), i + d = a.kids.length → sameKs a.kids b.kids = sameKs (a.kids.drop i) (b.kids.drop i) → f 2 = .ptr 0 0 0 → f 3 = .ptr 1 0 0 → f 6 = int i →
    AW ft (.loop c52L1) (mkE 85 f) (hx Heap.empty L) Q := by
  intro d
  have hi := ha.k.n
  unfold MX at hi
  induction d with
  | zero =>
    intro i f hd hc h2 h3 h5
    have g : ((i : Int) < a.kids.length) = False := by simp; omega
    rw [AW_loop]
    unfold c52L1
    rw [List.drop_eq_nil_of_le (by omega)] at hc
    simp only [↓vp, vq0, vq1, vq2, vq3, vr0, vr1, vr2, vr3, vr4, vr5, vr6, vr7, vr8, vr9, vr10, vr11, vr12, vr13, vr14, vr15, vr16, vr17, vr18, vr19, vr20, vr21, vr22, vr23, vr24, vr25, vr26, vr27, vr28, vr29, vr30, vr31, vr32, vr33, vr34, opS, fpS, okP, pack, nAl, allocA, shId, leaves, fillA, fillR, splice, Nat.reduceLT, Nat.reduceEqDiff, Nat.reduceLeDiff, Nat.reduceAdd, Nat.reduceSub, Nat.reduceMul, Int.reduceBEq, Int.reduceBNe, Int.reduceLT, Int.reduceLE, Int.reduceEq, reduceIte, reduceCtorEq, da, int, boolA, hL, h2, h3, h5, g]
    exact hex _ (by rw [hc]; rfl)
  | succ d ih =>
    intro i f hd hc h2 h3 h5
    have g : ((i : Int) < a.kids.length) = True := by simp; omega
    have gi : i < a.kids.length := by omega
    have gj : i < b.kids.length := by omega
    have o1 := ha.k.at_ gi
    have o2 := hb.k.at_ gj
    rw [AW_loop]
    unfold c52L1
    rw [List.drop_eq_getElem_cons gi, List.drop_eq_getElem_cons gj, sameKs] at hc
    have w1 := wrap_succ (show i < 9223372036854775807 by omega)
    cases e1 : a.kids[i].ref == b.kids[i].ref with
    | false =>
      have e1' : (a.kids[i].ref != b.kids[i].ref) = true := by rw [bne, e1]; rfl
      simp only [↓vp, vq0, vq1, vq2, vq3, vr0, vr1, vr2, vr3, vr4, vr5, vr6, vr7, vr8, vr9, vr10, vr11, vr12, vr13, vr14, vr15, vr16, vr17, vr18, vr19, vr20, vr21, vr22, vr23, vr24, vr25, vr26, vr27, vr28, vr29, vr30, vr31, vr32, vr33, vr34, opS, fpS, okP, pack, nAl, allocA, shId, leaves, fillA, fillR, splice, Nat.reduceLT, Nat.reduceEqDiff, Nat.reduceLeDiff, Nat.reduceAdd, Nat.reduceSub, Nat.reduceMul, Int.reduceBEq, Int.reduceBNe, Int.reduceLT, Int.reduceLE, Int.reduceEq, reduceIte, reduceCtorEq, da, int, boolA, hL, hL1, h2, h3, h5, g, atK gi, cK gi, atK gj, cK gj, k25, o1, o2, e1']
      refine hret _ (by rw [hc, sameK, e1, Bool.false_and, Bool.false_and]) ?_
      simp only [↓vp, vq0, vq1, vq2, vq3, vr0, vr1, vr2, vr3, vr4, vr5, vr6, vr7, vr8, vr9, vr10, vr11, vr12, vr13, vr14, vr15, vr16, vr17, vr18, vr19, vr20, vr21, vr22, vr23, vr24, vr25, vr26, vr27, vr28, vr29, vr30, vr31, vr32, vr33, vr34, opS, fpS, okP, pack, nAl, allocA, shId, leaves, fillA, fillR, splice, Nat.reduceLT, Nat.reduceEqDiff, Nat.reduceLeDiff, Nat.reduceAdd, Nat.reduceSub, Nat.reduceMul, Int.reduceBEq, Int.reduceBNe, Int.reduceLT, Int.reduceLE, Int.reduceEq, reduceIte, reduceCtorEq, da, int, boolA]
    | true =>
      have e1' : (a.kids[i].ref != b.kids[i].ref) = false := by rw [bne, e1]; rfl
      cases e2 : cmpB a.kids[i].key b.kids[i].key == 0 with
      | false =>
        have e2' : (cmpB a.kids[i].key b.kids[i].key != 0) = true := by rw [bne, e2]; rfl
        simp only [↓vp, vq0, vq1, vq2, vq3, vr0, vr1, vr2, vr3, vr4, vr5, vr6, vr7, vr8, vr9, vr10, vr11, vr12, vr13, vr14, vr15, vr16, vr17, vr18, vr19, vr20, vr21, vr22, vr23, vr24, vr25, vr26, vr27, vr28, vr29, vr30, vr31, vr32, vr33, vr34, opS, fpS, okP, pack, nAl, allocA, shId, leaves, fillA, fillR, splice, Nat.reduceLT, Nat.reduceEqDiff, Nat.reduceLeDiff, Nat.reduceAdd, Nat.reduceSub, Nat.reduceMul, Int.reduceBEq, Int.reduceBNe, Int.reduceLT, Int.reduceLE, Int.reduceEq, reduceIte, reduceCtorEq, da, int, boolA, hL, hL1, h2, h3, h5, g, atK gi, cK gi, atK gj, cK gj, k25, o1, o2, e1', e2']
        refine hret _ (by rw [hc, sameK, e1, e2, Bool.true_and, Bool.false_and]) ?_
        simp only [↓vp, vq0, vq1, vq2, vq3, vr0, vr1, vr2, vr3, vr4, vr5, vr6, vr7, vr8, vr9, vr10, vr11, vr12, vr13, vr14, vr15, vr16, vr17, vr18, vr19, vr20, vr21, vr22, vr23, vr24, vr25, vr26, vr27, vr28, vr29, vr30, vr31, vr32, vr33, vr34, opS, fpS, okP, pack, nAl, allocA, shId, leaves, fillA, fillR, splice, Nat.reduceLT, Nat.reduceEqDiff, Nat.reduceLeDiff, Nat.reduceAdd, Nat.reduceSub, Nat.reduceMul, Int.reduceBEq, Int.reduceBNe, Int.reduceLT, Int.reduceLE, Int.reduceEq, reduceIte, reduceCtorEq, da, int, boolA]
      | true =>
        have e2' : (cmpB a.kids[i].key b.kids[i].key != 0) = false := by rw [bne, e2]; rfl
        simp only [↓vp, vq0, vq1, vq2, vq3, vr0, vr1, vr2, vr3, vr4, vr5, vr6, vr7, vr8, vr9, vr10, vr11, vr12, vr13, vr14, vr15, vr16, vr17, vr18, vr19, vr20, vr21, vr22, vr23, vr24, vr25, vr26, vr27, vr28, vr29, vr30, vr31, vr32, vr33, vr34, opS, fpS, okP, pack, nAl, allocA, shId, leaves, fillA, fillR, splice, Nat.reduceLT, Nat.reduceEqDiff, Nat.reduceLeDiff, Nat.reduceAdd, Nat.reduceSub, Nat.reduceMul, Int.reduceBEq, Int.reduceBNe, Int.reduceLT, Int.reduceLE, Int.reduceEq, reduceIte, reduceCtorEq, da, int, boolA, hL, hL1, h2, h3, h5, g, atK gi, cK gi, atK gj, cK gj, k25, o1, o2, e1', e2', w1]
        refine ih (i + 1) _ (by omega) (by rw [hc, sameK, e1, e2, Bool.true_and, Bool.true_and]) ?_ ?_ ?_ <;> simp only [↓vp, vq0, vq1, vq2, vq3, vr0, vr1, vr2, vr3, vr4, vr5, vr6, vr7, vr8, vr9, vr10, vr11, vr12, vr13, vr14, vr15, vr16, vr17, vr18, vr19, vr20, vr21, vr22, vr23, vr24, vr25, vr26, vr27, vr28, vr29, vr30, vr31, vr32, vr33, vr34, opS, fpS, okP, pack, nAl, allocA, shId, leaves, fillA, fillR, splice, Nat.reduceLT, Nat.reduceEqDiff, Nat.reduceLeDiff, Nat.reduceAdd, Nat.reduceSub, Nat.reduceMul, Int.reduceBEq, Int.reduceBNe, Int.reduceLT, Int.reduceLE, Int.reduceEq, reduceIte, reduceCtorEq, da, int, boolA, h2, h3]
theorem s52 (a b : NodeM) (ha : okN a) (hb : okN b) (H : Heap) : callL ft (.fn (.func 52) [] []) [.agg (nodeC a), .agg (nodeC b)] H = some (boolA (sameN a b), H) := by
  refine call_p (as' := [.agg (nodeC a), .agg (nodeC b)]) rfl rfl (by simp) ?_
  unfold c52 r52
  have no : ∀ {f : Nat → AV} {H : Heap}, f 4 = boolA false → sameN a b = false → RetP [.tmp 4] (boolA (sameN a b)) .ret (mkE 85 f) H := fun h1 h2 => ret1 rfl (by decide) ⟨_, by rw [h1, h2]; rfl⟩
  cases e1 : a.leaf == b.leaf with
  | false =>
    simp only [↓vp, vq0, vq1, vq2, vq3, vr0, vr1, vr2, vr3, vr4, vr5, vr6, vr7, vr8, vr9, vr10, vr11, vr12, vr13, vr14, vr15, vr16, vr17, vr18, vr19, vr20, vr21, vr22, vr23, vr24, vr25, vr26, vr27, vr28, vr29, vr30, vr31, vr32, vr33, vr34, opS, fpS, okP, pack, nAl, allocA, shId, leaves, fillA, fillR, splice, Nat.reduceLT, Nat.reduceEqDiff, Nat.reduceLeDiff, Nat.reduceAdd, Nat.reduceSub, Nat.reduceMul, Int.reduceBEq, Int.reduceBNe, Int.reduceLT, Int.reduceLE, Int.reduceEq, reduceIte, reduceCtorEq, da, int, boolA, e1]
    exact no (by simp only [↓vp, vq0, vq1, vq2, vq3, vr0, vr1, vr2, vr3, vr4, vr5, vr6, vr7, vr8, vr9, vr10, vr11, vr12, vr13, vr14, vr15, vr16, vr17, vr18, vr19, vr20, vr21, vr22, vr23, vr24, vr25, vr26, vr27, vr28, vr29, vr30, vr31, vr32, vr33, vr34, opS, fpS, okP, pack, nAl, allocA, shId, leaves, fillA, fillR, splice, Nat.reduceLT, Nat.reduceEqDiff, Nat.reduceLeDiff, Nat.reduceAdd, Nat.reduceSub, Nat.reduceMul, Int.reduceBEq, Int.reduceBNe, Int.reduceLT, Int.reduceLE, Int.reduceEq, reduceIte, reduceCtorEq, da, int, boolA]) (by simp [sameN, e1])
  | true =>
    cases e2 : a.items.length == b.items.length with
    | false =>
      have e2' : ((a.items.length : Int) != b.items.length) = true := by
        have : a.items.length ≠ b.items.length := by simpa using e2
        simp; omega
      simp only [↓vp, vq0, vq1, vq2, vq3, vr0, vr1, vr2, vr3, vr4, vr5, vr6, vr7, vr8, vr9, vr10, vr11, vr12, vr13, vr14, vr15, vr16, vr17, vr18, vr19, vr20, vr21, vr22, vr23, vr24, vr25, vr26, vr27, vr28, vr29, vr30, vr31, vr32, vr33, vr34, opS, fpS, okP, pack, nAl, allocA, shId, leaves, fillA, fillR, splice, Nat.reduceLT, Nat.reduceEqDiff, Nat.reduceLeDiff, Nat.reduceAdd, Nat.reduceSub, Nat.reduceMul, Int.reduceBEq, Int.reduceBNe, Int.reduceLT, Int.reduceLE, Int.reduceEq, reduceIte, reduceCtorEq, da, int, boolA, e1, e2']
      exact no (by simp only [↓vp, vq0, vq1, vq2, vq3, vr0, vr1, vr2, vr3, vr4, vr5, vr6, vr7, vr8, vr9, vr10, vr11, vr12, vr13, vr14, vr15, vr16, vr17, vr18, vr19, vr20, vr21, vr22, vr23, vr24, vr25, vr26, vr27, vr28, vr29, vr30, vr31, vr32, vr33, vr34, opS, fpS, okP, pack, nAl, allocA, shId, leaves, fillA, fillR, splice, Nat.reduceLT, Nat.reduceEqDiff, Nat.reduceLeDiff, Nat.reduceAdd, Nat.reduceSub, Nat.reduceMul, Int.reduceBEq, Int.reduceBNe, Int.reduceLT, Int.reduceLE, Int.reduceEq, reduceIte, reduceCtorEq, da, int, boolA]) (by simp [sameN, e1, e2])
    | true =>
      have h2 : a.items.length = b.items.length := by simpa using e2
      have e2' : ((a.items.length : Int) != b.items.length) = false := by simp; omega
      cases e3 : a.kids.length == b.kids.length with
      | false =>
        have e3' : ((a.kids.length : Int) != b.kids.length) = true := by
          have : a.kids.length ≠ b.kids.length := by simpa using e3
          simp; omega
        simp only [↓vp, vq0, vq1, vq2, vq3, vr0, vr1, vr2, vr3, vr4, vr5, vr6, vr7, vr8, vr9, vr10, vr11, vr12, vr13, vr14, vr15, vr16, vr17, vr18, vr19, vr20, vr21, vr22, vr23, vr24, vr25, vr26, vr27, vr28, vr29, vr30, vr31, vr32, vr33, vr34, opS, fpS, okP, pack, nAl, allocA, shId, leaves, fillA, fillR, splice, Nat.reduceLT, Nat.reduceEqDiff, Nat.reduceLeDiff, Nat.reduceAdd, Nat.reduceSub, Nat.reduceMul, Int.reduceBEq, Int.reduceBNe, Int.reduceLT, Int.reduceLE, Int.reduceEq, reduceIte, reduceCtorEq, da, int, boolA, e1, e2', e3']
        exact no (by simp only [↓vp, vq0, vq1, vq2, vq3, vr0, vr1, vr2, vr3, vr4, vr5, vr6, vr7, vr8, vr9, vr10, vr11, vr12, vr13, vr14, vr15, vr16, vr17, vr18, vr19, vr20, vr21, vr22, vr23, vr24, vr25, vr26, vr27, vr28, vr29, vr30, vr31, vr32, vr33, vr34, opS, fpS, okP, pack, nAl, allocA, shId, leaves, fillA, fillR, splice, Nat.reduceLT, Nat.reduceEqDiff, Nat.reduceLeDiff, Nat.reduceAdd, Nat.reduceSub, Nat.reduceMul, Int.reduceBEq, Int.reduceBNe, Int.reduceLT, Int.reduceLE, Int.reduceEq, reduceIte, reduceCtorEq, da, int, boolA]) (by simp [sameN, e1, e2, e3])
      | true =>
        have h3 : a.kids.length = b.kids.length := by simpa using e3
        have e3' : ((a.kids.length : Int) != b.kids.length) = false := by simp; omega
        simp only [↓vp, vq0, vq1, vq2, vq3, vr0, vr1, vr2, vr3, vr4, vr5, vr6, vr7, vr8, vr9, vr10, vr11, vr12, vr13, vr14, vr15, vr16, vr17, vr18, vr19, vr20, vr21, vr22, vr23, vr24, vr25, vr26, vr27, vr28, vr29, vr30, vr31, vr32, vr33, vr34, opS, fpS, okP, pack, nAl, allocA, shId, leaves, fillA, fillR, splice, Nat.reduceLT, Nat.reduceEqDiff, Nat.reduceLeDiff, Nat.reduceAdd, Nat.reduceSub, Nat.reduceMul, Int.reduceBEq, Int.reduceBNe, Int.reduceLT, Int.reduceLE, Int.reduceEq, reduceIte, reduceCtorEq, da, int, boolA, e1, e2', e3']
        refine l52a a b ha hb h2 rfl rfl (fun f' L' g0 g1 p2 p3 hs => ?_) (fun f' L' hs h4 => ?_) a.items.length 0 _ (by omega) rfl ?_ ?_ ?_
        · unfold c52R3
          simp only [↓vp, vq0, vq1, vq2, vq3, vr0, vr1, vr2, vr3, vr4, vr5, vr6, vr7, vr8, vr9, vr10, vr11, vr12, vr13, vr14, vr15, vr16, vr17, vr18, vr19, vr20, vr21, vr22, vr23, vr24, vr25, vr26, vr27, vr28, vr29, vr30, vr31, vr32, vr33, vr34, opS, fpS, okP, pack, nAl, allocA, shId, leaves, fillA, fillR, splice, Nat.reduceLT, Nat.reduceEqDiff, Nat.reduceLeDiff, Nat.reduceAdd, Nat.reduceSub, Nat.reduceMul, Int.reduceBEq, Int.reduceBNe, Int.reduceLT, Int.reduceLE, Int.reduceEq, reduceIte, reduceCtorEq, da, int, boolA]
          refine l52b a b ha hb h3 g0 g1 (fun f'' hk => ?_) (fun f'' hk h4 => ?_) a.kids.length 0 _ (by omega) rfl ?_ ?_ ?_
          · unfold c52R2
            simp only [↓vp, vq0, vq1, vq2, vq3, vr0, vr1, vr2, vr3, vr4, vr5, vr6, vr7, vr8, vr9, vr10, vr11, vr12, vr13, vr14, vr15, vr16, vr17, vr18, vr19, vr20, vr21, vr22, vr23, vr24, vr25, vr26, vr27, vr28, vr29, vr30, vr31, vr32, vr33, vr34, opS, fpS, okP, pack, nAl, allocA, shId, leaves, fillA, fillR, splice, Nat.reduceLT, Nat.reduceEqDiff, Nat.reduceLeDiff, Nat.reduceAdd, Nat.reduceSub, Nat.reduceMul, Int.reduceBEq, Int.reduceBNe, Int.reduceLT, Int.reduceLE, Int.reduceEq, reduceIte, reduceCtorEq, da, int, boolA]
            refine ret1 rfl (by decide) ?_
            simp only [↓vp, vq0, vq1, vq2, vq3, vr0, vr1, vr2, vr3, vr4, vr5, vr6, vr7, vr8, vr9, vr10, vr11, vr12, vr13, vr14, vr15, vr16, vr17, vr18, vr19, vr20, vr21, vr22, vr23, vr24, vr25, vr26, vr27, vr28, vr29, vr30, vr31, vr32, vr33, vr34, opS, fpS, okP, pack, nAl, allocA, shId, leaves, fillA, fillR, splice, Nat.reduceLT, Nat.reduceEqDiff, Nat.reduceLeDiff, Nat.reduceAdd, Nat.reduceSub, Nat.reduceMul, Int.reduceBEq, Int.reduceBNe, Int.reduceLT, Int.reduceLE, Int.reduceEq, reduceIte, reduceCtorEq, da, int, boolA, sameN, e1, e2, e3, hs, hk]
            exact ⟨_, rfl⟩
          · exact no h4 (by simp [sameN, e1, e2, e3, hs, hk])
          all_goals first | rfl | (simp only [↓vp, vq0, vq1, vq2, vq3, vr0, vr1, vr2, vr3, vr4, vr5, vr6, vr7, vr8, vr9, vr10, vr11, vr12, vr13, vr14, vr15, vr16, vr17, vr18, vr19, vr20, vr21, vr22, vr23, vr24, vr25, vr26, vr27, vr28, vr29, vr30, vr31, vr32, vr33, vr34, opS, fpS, okP, pack, nAl, allocA, shId, leaves, fillA, fillR, splice, Nat.reduceLT, Nat.reduceEqDiff, Nat.reduceLeDiff, Nat.reduceAdd, Nat.reduceSub, Nat.reduceMul, Int.reduceBEq, Int.reduceBNe, Int.reduceLT, Int.reduceLE, Int.reduceEq, reduceIte, reduceCtorEq, da, int, boolA, p2, p3]; done)
        · exact no h4 (by simp [sameN, e1, e2, e3, hs])
        all_goals first | rfl | (simp only [↓vp, vq0, vq1, vq2, vq3, vr0, vr1, vr2, vr3, vr4, vr5, vr6, vr7, vr8, vr9, vr10, vr11, vr12, vr13, vr14, vr15, vr16, vr17, vr18, vr19, vr20, vr21, vr22, vr23, vr24, vr25, vr26, vr27, vr28, vr29, vr30, vr31, vr32, vr33, vr34, opS, fpS, okP, pack, nAl, allocA, shId, leaves, fillA, fillR, splice, Nat.reduceLT, Nat.reduceEqDiff, Nat.reduceLeDiff, Nat.reduceAdd, Nat.reduceSub, Nat.reduceMul, Int.reduceBEq, Int.reduceBNe, Int.reduceLT, Int.reduceLE, Int.reduceEq, reduceIte, reduceCtorEq, da, int, boolA]; done)
theorem k52 {a b : NodeM} (ha : okN a) (hb : okN b) {K : Heap} {L : List Blk} {Q : AV → Heap → Prop} : KW ft (.fn (.func 52) [] []) [.agg (nodeC a), .agg (nodeC b)] (hx K L) Q ↔ Q (boolA (sameN a b)) (hx K L) := KW_of (s52 a b ha hb _)
end Go.VI

/- VI, part SD: the program's node of the document's, and the other way round. -/
set_option linter.unusedVariables false
set_option linter.unusedSimpArgs false
set_option maxRecDepth 100000
namespace Go.VI
attribute [local congr] AW_congr OW_congr DW_congr NW_congr VW_congr GW_congr PW_congr KW_congr ite_congr' GV_congr CV_congr

theorem l47a (n : NodeM) (hs : n.items.length ≤ 1000) {B0 B1 : Blk} (hn0 : ∀ s r, B0 ≠ .row false s r) (hn1 : ∀ s r, B1 ≠ .row false s r) {Q : AExit → Env → Heap → Prop}
   (hex : ∀ f' K S, Rep K 4 S (n.items.map itemC) → K.get 0 = some B0 → K.get 1 = some B1 → K.get 2 = some (.box false [boolA n.leaf, S, .sc (.slice none 0 0)]) → f' 1 = .ptr 0 0 0 → f' 2 = .ptr 1 0 0 → f' 3 = .ptr 2 0 0 → Q (.exit 0) (mkE 40 f') (hx K [])) :
   ∀ (d i : Nat) (S : AV) (K : Heap) (f : Nat → AV), i + d = n.items.length → Rep K 4 S ((n.items.take i).map itemC) → K.get 0 = some B0 → K.get 1 = some B1 → K.get 2 = some (.box false [boolA n.leaf, S, .sc (.slice none 0 0)]) →
    f 1 = .ptr 0 0 0 → f 2 = .ptr 1 0 0 → f 3 = .ptr 2 0 0 → f 12 = encI n.items → f 13 = int n.items.length → f 14 = int i →
    AW ft (.loop c47L0) (mkE 40 f) (hx K []) Q := by
  intro d
  induction d with
  | zero =>
    intro i S K f hd hr k0 k1 k2 h1 h2 h3 h12 h13 h14
    have g : ((i : Int) < n.items.length) = False := by simp; omega
    rw [AW_loop]
    unfold c47L0
    rw [List.take_of_length_le (by omega)] at hr
    simp only [↓vp, vq0, vq1, vq2, vq3, vr0, vr1, vr2, vr3, vr4, vr5, vr6, vr7, vr8, vr9, vr10, vr11, vr12, vr13, vr14, vr15, vr16, vr17, vr18, vr19, vr20, vr21, vr22, vr23, vr24, vr25, vr26, vr27, vr28, vr29, vr30, vr31, vr32, vr33, vr34, opS, fpS, okP, pack, nAl, allocA, shId, leaves, fillA, fillR, splice, Nat.reduceLT, Nat.reduceEqDiff, Nat.reduceLeDiff, Nat.reduceAdd, Nat.reduceSub, Nat.reduceMul, Int.reduceBEq, Int.reduceBNe, Int.reduceLT, Int.reduceLE, Int.reduceEq, reduceIte, reduceCtorEq, da, int, boolA, h13, h14, g]
    refine hex _ K S hr k0 k1 k2 ?_ ?_ ?_ <;> simp only [↓vp, vq0, vq1, vq2, vq3, vr0, vr1, vr2, vr3, vr4, vr5, vr6, vr7, vr8, vr9, vr10, vr11, vr12, vr13, vr14, vr15, vr16, vr17, vr18, vr19, vr20, vr21, vr22, vr23, vr24, vr25, vr26, vr27, vr28, vr29, vr30, vr31, vr32, vr33, vr34, opS, fpS, okP, pack, nAl, allocA, shId, leaves, fillA, fillR, splice, Nat.reduceLT, Nat.reduceEqDiff, Nat.reduceLeDiff, Nat.reduceAdd, Nat.reduceSub, Nat.reduceMul, Int.reduceBEq, Int.reduceBNe, Int.reduceLT, Int.reduceLE, Int.reduceEq, reduceIte, reduceCtorEq, da, int, boolA, h1, h2, h3]
  | succ d ih =>
    intro i S K f hd hr k0 k1 k2 h1 h2 h3 h12 h13 h14
    have g : ((i : Int) < n.items.length) = True := by simp; omega
    have gi : i < n.items.length := by omega
    have w1 := wrap_succ (show i < 9223372036854775807 by omega)
    have l0 := Heap.get_lt k0
    have l1 := Heap.get_lt k1
    have l2 := Heap.get_lt k2
    have o0 := fun L => hx_get_old K L 0 l0
    have o1 := fun L => hx_get_old K L 1 l1
    have o2 := fun L => hx_get_old K L 2 l2
    have p2 := fun L b => hx_set_old K L b 2 l2
    have ht : (n.items.take (i + 1)).map itemC = (n.items.take i).map itemC ++ [itemC n.items[i]] := by
      rw [List.take_succ_eq_append_getElem gi, List.map_append]; rfl
    rw [AW_loop]
    unfold c47L0
    rcases hr with ⟨rfl, hr⟩ | ⟨id, rfl, hr⟩
    · simp only [↓vp, vq0, vq1, vq2, vq3, vr0, vr1, vr2, vr3, vr4, vr5, vr6, vr7, vr8, vr9, vr10, vr11, vr12, vr13, vr14, vr15, vr16, vr17, vr18, vr19, vr20, vr21, vr22, vr23, vr24, vr25, vr26, vr27, vr28, vr29, vr30, vr31, vr32, vr33, vr34, opS, fpS, okP, pack, nAl, allocA, shId, leaves, fillA, fillR, splice, Nat.reduceLT, Nat.reduceEqDiff, Nat.reduceLeDiff, Nat.reduceAdd, Nat.reduceSub, Nat.reduceMul, Int.reduceBEq, Int.reduceBNe, Int.reduceLT, Int.reduceLE, Int.reduceEq, reduceIte, reduceCtorEq, da, int, boolA, h1, h2, h3, h12, h13, h14, g, atI gi, cI gi, k2, o2, p2, w1]
      rw [← hx_nil (hx _ _)]
      have q0 : ∀ (j : Nat) (b : Blk) (L : List Blk), j ≠ 2 → j < K.next → (hx (K.set 2 b) L).get j = K.get j := fun j b L hj hl => by
        rw [hx_get_old _ _ _ (by simpa using hl), Heap.get_set_ne _ hj]
      have q2 : ∀ (b : Blk) (L : List Blk), (hx (K.set 2 b) L).get 2 = some b := fun b L => by
        rw [hx_get_old _ _ _ (by simpa using l2), Heap.get_set_self _ l2]
      refine ih (i + 1) (.sl (K.next + 2) 0 1) _ _ (by omega) (.inr ⟨K.next + 2, ?_, ?_⟩) ?_ ?_ ?_ ?_ ?_ ?_ ?_ ?_ ?_
      · rw [ht, hr]; rfl
      · rw [ht, hr]
        simp only [↓vp, vq0, vq1, vq2, vq3, vr0, vr1, vr2, vr3, vr4, vr5, vr6, vr7, vr8, vr9, vr10, vr11, vr12, vr13, vr14, vr15, vr16, vr17, vr18, vr19, vr20, vr21, vr22, vr23, vr24, vr25, vr26, vr27, vr28, vr29, vr30, vr31, vr32, vr33, vr34, opS, fpS, okP, pack, nAl, allocA, shId, leaves, fillA, fillR, splice, Nat.reduceLT, Nat.reduceEqDiff, Nat.reduceLeDiff, Nat.reduceAdd, Nat.reduceSub, Nat.reduceMul, Int.reduceBEq, Int.reduceBNe, Int.reduceLT, Int.reduceLE, Int.reduceEq, reduceIte, reduceCtorEq]
      · rw [q0 _ _ _ (by decide) l0]; exact k0
      · rw [q0 _ _ _ (by decide) l1]; exact k1
      · rw [q2]; rfl
      all_goals simp only [↓vp, vq0, vq1, vq2, vq3, vr0, vr1, vr2, vr3, vr4, vr5, vr6, vr7, vr8, vr9, vr10, vr11, vr12, vr13, vr14, vr15, vr16, vr17, vr18, vr19, vr20, vr21, vr22, vr23, vr24, vr25, vr26, vr27, vr28, vr29, vr30, vr31, vr32, vr33, vr34, opS, fpS, okP, pack, nAl, allocA, shId, leaves, fillA, fillR, splice, Nat.reduceLT, Nat.reduceEqDiff, Nat.reduceLeDiff, Nat.reduceAdd, Nat.reduceSub, Nat.reduceMul, Int.reduceBEq, Int.reduceBNe, Int.reduceLT, Int.reduceLE, Int.reduceEq, reduceIte, reduceCtorEq, da, int, boolA, h1, h2, h3, h12, h13]
    · have lid := Heap.get_lt hr
      have d0 : 0 ≠ id := fun e => by subst e; rw [k0] at hr; exact hn0 _ _ (Option.some.inj hr)
      have d1 : 1 ≠ id := fun e => by subst e; rw [k1] at hr; exact hn1 _ _ (Option.some.inj hr)
      have d2 : 2 ≠ id := fun e => by subst e; rw [k2] at hr; cases hr
      have oid := fun L => hx_get_old K L id lid
      have pid := fun L b => hx_set_old K L b id lid
      have o2' : ∀ (L : List Blk) (b : Blk), (hx (K.set id b) L).get 2 = K.get 2 := fun L b => by
        rw [hx_get_old _ _ _ (by simpa using l2), Heap.get_set_ne _ d2]
      have p2' : ∀ (L : List Blk) (b c : Blk), (hx (K.set id b) L).set 2 c = hx ((K.set id b).set 2 c) L := fun L b c => hx_set_old _ L c 2 (by simpa using l2)
      have hlen : ((n.items.take i).map itemC).length = i := by simp; omega
      have hb : (i + 1) * 64 ≤ 140737488355328 := by omega
      have hr' := hr
      simp only [↓vp, vq0, vq1, vq2, vq3, vr0, vr1, vr2, vr3, vr4, vr5, vr6, vr7, vr8, vr9, vr10, vr11, vr12, vr13, vr14, vr15, vr16, vr17, vr18, vr19, vr20, vr21, vr22, vr23, vr24, vr25, vr26, vr27, vr28, vr29, vr30, vr31, vr32, vr33, vr34, opS, fpS, okP, pack, nAl, allocA, shId, leaves, fillA, fillR, splice, Nat.reduceLT, Nat.reduceEqDiff, Nat.reduceLeDiff, Nat.reduceAdd, Nat.reduceSub, Nat.reduceMul, Int.reduceBEq, Int.reduceBNe, Int.reduceLT, Int.reduceLE, Int.reduceEq, reduceIte, reduceCtorEq, da, int, boolA, h1, h2, h3, h12, h13, h14, g, atI gi, cI gi, k2, o2, p2, w1, oid, pid, o2', p2', hr, hlen, hb, List.take_of_length_le (Nat.le_of_eq hlen), List.length_take]
      rw [← hx_nil (hx _ _)]
      have q0 : ∀ (j : Nat) (b c : Blk) (L : List Blk), j ≠ 2 → j ≠ id → j < K.next → (hx ((K.set id c).set 2 b) L).get j = K.get j := fun j b c L hj hj2 hl => by
        rw [hx_get_old _ _ _ (by simpa using hl), Heap.get_set_ne _ hj, Heap.get_set_ne _ hj2]
      have q2 : ∀ (b c : Blk) (L : List Blk), (hx ((K.set id c).set 2 b) L).get 2 = some b := fun b c L => by
        rw [hx_get_old _ _ _ (by simpa using l2), Heap.get_set_self _ (by simpa using l2)]
      refine ih (i + 1) (.sl (K.next + 2) 0 (i + 1)) _ _ (by omega) (.inr ⟨K.next + 2, ?_, ?_⟩) ?_ ?_ ?_ ?_ ?_ ?_ ?_ ?_ ?_
      · rw [ht, List.length_append, hlen]; rfl
      · rw [ht]
        simp only [↓vp, vq0, vq1, vq2, vq3, vr0, vr1, vr2, vr3, vr4, vr5, vr6, vr7, vr8, vr9, vr10, vr11, vr12, vr13, vr14, vr15, vr16, vr17, vr18, vr19, vr20, vr21, vr22, vr23, vr24, vr25, vr26, vr27, vr28, vr29, vr30, vr31, vr32, vr33, vr34, opS, fpS, okP, pack, nAl, allocA, shId, leaves, fillA, fillR, splice, Nat.reduceLT, Nat.reduceEqDiff, Nat.reduceLeDiff, Nat.reduceAdd, Nat.reduceSub, Nat.reduceMul, Int.reduceBEq, Int.reduceBNe, Int.reduceLT, Int.reduceLE, Int.reduceEq, reduceIte, reduceCtorEq]
      · rw [q0 _ _ _ _ (by decide) d0 l0]; exact k0
      · rw [q0 _ _ _ _ (by decide) d1 l1]; exact k1
      · rw [q2]; rfl
      all_goals simp only [↓vp, vq0, vq1, vq2, vq3, vr0, vr1, vr2, vr3, vr4, vr5, vr6, vr7, vr8, vr9, vr10, vr11, vr12, vr13, vr14, vr15, vr16, vr17, vr18, vr19, vr20, vr21, vr22, vr23, vr24, vr25, vr26, vr27, vr28, vr29, vr30, vr31, vr32, vr33, vr34, opS, fpS, okP, pack, nAl, allocA, shId, leaves, fillA, fillR, splice, Nat.reduceLT, Nat.reduceEqDiff, Nat.reduceLeDiff, Nat.reduceAdd, Nat.reduceSub, Nat.reduceMul, Int.reduceBEq, Int.reduceBNe, Int.reduceLT, Int.reduceLE, Int.reduceEq, reduceIte, reduceCtorEq, da, int, boolA, h1, h2, h3, h12, h13]
theorem l47b (n : NodeM) (hs : n.kids.length ≤ 1000) {B0 B1 : Blk} (hn0 : ∀ s r, B0 ≠ .row false s r) (hn1 : ∀ s r, B1 ≠ .row false s r) {S : AV} {rows : List (List AV)} {Q : AExit → Env → Heap → Prop}
   (hex : ∀ f' K T, Rep K 2 T (n.kids.map kidC) → Rep K 4 S rows → K.get 0 = some B0 → K.get 1 = some B1 → K.get 2 = some (.box false [boolA n.leaf, S, T]) → f' 1 = .ptr 0 0 0 → f' 2 = .ptr 1 0 0 → f' 3 = .ptr 2 0 0 → Q (.exit 2) (mkE 40 f') (hx K [])) :
   ∀ (d i : Nat) (T : AV) (K : Heap) (f : Nat → AV), i + d = n.kids.length → Rep K 2 T ((n.kids.take i).map kidC) → Rep K 4 S rows → K.get 0 = some B0 → K.get 1 = some B1 → K.get 2 = some (.box false [boolA n.leaf, S, T]) →
    f 1 = .ptr 0 0 0 → f 2 = .ptr 1 0 0 → f 3 = .ptr 2 0 0 → f 26 = encK n.kids → f 27 = int n.kids.length → f 28 = int i →
    AW ft (.loop c47L1) (mkE 40 f) (hx K []) Q := by
  intro d
  induction d with
  | zero =>
    intro i T K f hd hr hrS k0 k1 k2 h1 h2 h3 h26 h27 h28
    have g : ((i : Int) < n.kids.length) = False := by simp; omega
    rw [AW_loop]
    unfold c47L1
    rw [List.take_of_length_le (by omega)] at hr
    simp only [↓vp, vq0, vq1, vq2, vq3, vr0, vr1, vr2, vr3, vr4, vr5, vr6, vr7, vr8, vr9, vr10, vr11, vr12, vr13, vr14, vr15, vr16, vr17, vr18, vr19, vr20, vr21, vr22, vr23, vr24, vr25, vr26, vr27, vr28, vr29, vr30, vr31, vr32, vr33, vr34, opS, fpS, okP, pack, nAl, allocA, shId, leaves, fillA, fillR, splice, Nat.reduceLT, Nat.reduceEqDiff, Nat.reduceLeDiff, Nat.reduceAdd, Nat.reduceSub, Nat.reduceMul, Int.reduceBEq, Int.reduceBNe, Int.reduceLT, Int.reduceLE, Int.reduceEq, reduceIte, reduceCtorEq, da, int, boolA, h27, h28, g]
    refine hex _ K T hr hrS k0 k1 k2 ?_ ?_ ?_ <;> simp only [↓vp, vq0, vq1, vq2, vq3, vr0, vr1, vr2, vr3, vr4, vr5, vr6, vr7, vr8, vr9, vr10, vr11, vr12, vr13, vr14, vr15, vr16, vr17, vr18, vr19, vr20, vr21, vr22, vr23, vr24, vr25, vr26, vr27, vr28, vr29, vr30, vr31, vr32, vr33, vr34, opS, fpS, okP, pack, nAl, allocA, shId, leaves, fillA, fillR, splice, Nat.reduceLT, Nat.reduceEqDiff, Nat.reduceLeDiff, Nat.reduceAdd, Nat.reduceSub, Nat.reduceMul, Int.reduceBEq, Int.reduceBNe, Int.reduceLT, Int.reduceLE, Int.reduceEq, reduceIte, reduceCtorEq, da, int, boolA, h1, h2, h3]
  | succ d ih =>
    intro i T K f hd hr hrS k0 k1 k2 h1 h2 h3 h26 h27 h28
    have g : ((i : Int) < n.kids.length) = True := by simp; omega
    have gi : i < n.kids.length := by omega
    have w1 := wrap_succ (show i < 9223372036854775807 by omega)
    have l0 := Heap.get_lt k0
    have l1 := Heap.get_lt k1
    have l2 := Heap.get_lt k2
    have o0 := fun L => hx_get_old K L 0 l0
    have o1 := fun L => hx_get_old K L 1 l1
    have o2 := fun L => hx_get_old K L 2 l2
    have p2 := fun L b => hx_set_old K L b 2 l2
    have ht : (n.kids.take (i + 1)).map kidC = (n.kids.take i).map kidC ++ [kidC n.kids[i]] := by
      rw [List.take_succ_eq_append_getElem gi, List.map_append]; rfl
    rw [AW_loop]
    unfold c47L1
    rcases hr with ⟨rfl, hr⟩ | ⟨id, rfl, hr⟩
    · simp only [↓vp, vq0, vq1, vq2, vq3, vr0, vr1, vr2, vr3, vr4, vr5, vr6, vr7, vr8, vr9, vr10, vr11, vr12, vr13, vr14, vr15, vr16, vr17, vr18, vr19, vr20, vr21, vr22, vr23, vr24, vr25, vr26, vr27, vr28, vr29, vr30, vr31, vr32, vr33, vr34, opS, fpS, okP, pack, nAl, allocA, shId, leaves, fillA, fillR, splice, Nat.reduceLT, Nat.reduceEqDiff, Nat.reduceLeDiff, Nat.reduceAdd, Nat.reduceSub, Nat.reduceMul, Int.reduceBEq, Int.reduceBNe, Int.reduceLT, Int.reduceLE, Int.reduceEq, reduceIte, reduceCtorEq, da, int, boolA, h1, h2, h3, h26, h27, h28, g, atK gi, cK gi, k2, o2, p2, w1]
      rw [← hx_nil (hx _ _)]
      have q0 : ∀ (j : Nat) (b : Blk) (L : List Blk), j ≠ 2 → j < K.next → (hx (K.set 2 b) L).get j = K.get j := fun j b L hj hl => by
        rw [hx_get_old _ _ _ (by simpa using hl), Heap.get_set_ne _ hj]
      have q2 : ∀ (b : Blk) (L : List Blk), (hx (K.set 2 b) L).get 2 = some b := fun b L => by
        rw [hx_get_old _ _ _ (by simpa using l2), Heap.get_set_self _ l2]
      have hS : Rep (hx (K.set 2 (.box false [boolA n.leaf, S, .sl (K.next + 2) 0 1])) [.box false (kidC n.kids[i]), .row false 2 [kidC n.kids[i]], .row false 2 [kidC n.kids[i]]]) 4 S rows := hrS.mono fun j hj => by
        rw [q0 _ _ _ (fun e => by subst e; rw [k2] at hj; cases hj) (Heap.get_lt hj)]
        exact hj
      refine ih (i + 1) (.sl (K.next + 2) 0 1) _ _ (by omega) (.inr ⟨K.next + 2, ?_, ?_⟩) hS ?_ ?_ ?_ ?_ ?_ ?_ ?_ ?_ ?_
      · rw [ht, hr]; rfl
      · rw [ht, hr]
        simp only [↓vp, vq0, vq1, vq2, vq3, vr0, vr1, vr2, vr3, vr4, vr5, vr6, vr7, vr8, vr9, vr10, vr11, vr12, vr13, vr14, vr15, vr16, vr17, vr18, vr19, vr20, vr21, vr22, vr23, vr24, vr25, vr26, vr27, vr28, vr29, vr30, vr31, vr32, vr33, vr34, opS, fpS, okP, pack, nAl, allocA, shId, leaves, fillA, fillR, splice, Nat.reduceLT, Nat.reduceEqDiff, Nat.reduceLeDiff, Nat.reduceAdd, Nat.reduceSub, Nat.reduceMul, Int.reduceBEq, Int.reduceBNe, Int.reduceLT, Int.reduceLE, Int.reduceEq, reduceIte, reduceCtorEq]
      · rw [q0 _ _ _ (by decide) l0]; exact k0
      · rw [q0 _ _ _ (by decide) l1]; exact k1
      · rw [q2]; rfl
      all_goals simp only [↓vp, vq0, vq1, vq2, vq3, vr0, vr1, vr2, vr3, vr4, vr5, vr6, vr7, vr8, vr9, vr10, vr11, vr12, vr13, vr14, vr15, vr16, vr17, vr18, vr19, vr20, vr21, vr22, vr23, vr24, vr25, vr26, vr27, vr28, vr29, vr30, vr31, vr32, vr33, vr34, opS, fpS, okP, pack, nAl, allocA, shId, leaves, fillA, fillR, splice, Nat.reduceLT, Nat.reduceEqDiff, Nat.reduceLeDiff, Nat.reduceAdd, Nat.reduceSub, Nat.reduceMul, Int.reduceBEq, Int.reduceBNe, Int.reduceLT, Int.reduceLE, Int.reduceEq, reduceIte, reduceCtorEq, da, int, boolA, h1, h2, h3, h26, h27]
    · have lid := Heap.get_lt hr
      have d0 : 0 ≠ id := fun e => by subst e; rw [k0] at hr; exact hn0 _ _ (Option.some.inj hr)
      have d1 : 1 ≠ id := fun e => by subst e; rw [k1] at hr; exact hn1 _ _ (Option.some.inj hr)
      have d2 : 2 ≠ id := fun e => by subst e; rw [k2] at hr; cases hr
      have oid := fun L => hx_get_old K L id lid
      have pid := fun L b => hx_set_old K L b id lid
      have o2' : ∀ (L : List Blk) (b : Blk), (hx (K.set id b) L).get 2 = K.get 2 := fun L b => by
        rw [hx_get_old _ _ _ (by simpa using l2), Heap.get_set_ne _ d2]
      have p2' : ∀ (L : List Blk) (b c : Blk), (hx (K.set id b) L).set 2 c = hx ((K.set id b).set 2 c) L := fun L b c => hx_set_old _ L c 2 (by simpa using l2)
      have hlen : ((n.kids.take i).map kidC).length = i := by simp; omega
      have hb : (i + 1) * 32 ≤ 140737488355328 := by omega
      have hr' := hr
      simp only [↓vp, vq0, vq1, vq2, vq3, vr0, vr1, vr2, vr3, vr4, vr5, vr6, vr7, vr8, vr9, vr10, vr11, vr12, vr13, vr14, vr15, vr16, vr17, vr18, vr19, vr20, vr21, vr22, vr23, vr24, vr25, vr26, vr27, vr28, vr29, vr30, vr31, vr32, vr33, vr34, opS, fpS, okP, pack, nAl, allocA, shId, leaves, fillA, fillR, splice, Nat.reduceLT, Nat.reduceEqDiff, Nat.reduceLeDiff, Nat.reduceAdd, Nat.reduceSub, Nat.reduceMul, Int.reduceBEq, Int.reduceBNe, Int.reduceLT, Int.reduceLE, Int.reduceEq, reduceIte, reduceCtorEq, da, int, boolA, h1, h2, h3, h26, h27, h28, g, atK gi, cK gi, k2, o2, p2, w1, oid, pid, o2', p2', hr, hlen, hb, List.take_of_length_le (Nat.le_of_eq hlen), List.length_take]
      rw [← hx_nil (hx _ _)]
      have q0 : ∀ (j : Nat) (b c : Blk) (L : List Blk), j ≠ 2 → j ≠ id → j < K.next → (hx ((K.set id c).set 2 b) L).get j = K.get j := fun j b c L hj hj2 hl => by
        rw [hx_get_old _ _ _ (by simpa using hl), Heap.get_set_ne _ hj, Heap.get_set_ne _ hj2]
      have q2 : ∀ (b c : Blk) (L : List Blk), (hx ((K.set id c).set 2 b) L).get 2 = some b := fun b c L => by
        rw [hx_get_old _ _ _ (by simpa using l2), Heap.get_set_self _ (by simpa using l2)]
      have hS : Rep (hx ((K.set id .dead).set 2 (.box false [boolA n.leaf, S, .sl (K.next + 2) 0 (i + 1)])) [.box false (kidC n.kids[i]), .row false 2 [kidC n.kids[i]], .row false 2 ((n.kids.take i).map kidC ++ [kidC n.kids[i]])]) 4 S rows := hrS.mono fun j hj => by
        rw [q0 _ _ _ _ (fun e => by subst e; rw [k2] at hj; cases hj) (fun e => by subst e; rw [hr'] at hj; cases hj) (Heap.get_lt hj)]
        exact hj
      refine ih (i + 1) (.sl (K.next + 2) 0 (i + 1)) _ _ (by omega) (.inr ⟨K.next + 2, ?_, ?_⟩) hS ?_ ?_ ?_ ?_ ?_ ?_ ?_ ?_ ?_
      · rw [ht, List.length_append, hlen]; rfl
      · rw [ht]
        simp only [↓vp, vq0, vq1, vq2, vq3, vr0, vr1, vr2, vr3, vr4, vr5, vr6, vr7, vr8, vr9, vr10, vr11, vr12, vr13, vr14, vr15, vr16, vr17, vr18, vr19, vr20, vr21, vr22, vr23, vr24, vr25, vr26, vr27, vr28, vr29, vr30, vr31, vr32, vr33, vr34, opS, fpS, okP, pack, nAl, allocA, shId, leaves, fillA, fillR, splice, Nat.reduceLT, Nat.reduceEqDiff, Nat.reduceLeDiff, Nat.reduceAdd, Nat.reduceSub, Nat.reduceMul, Int.reduceBEq, Int.reduceBNe, Int.reduceLT, Int.reduceLE, Int.reduceEq, reduceIte, reduceCtorEq]
      · rw [q0 _ _ _ _ (by decide) d0 l0]; exact k0
      · rw [q0 _ _ _ _ (by decide) d1 l1]; exact k1
      · rw [q2]; rfl
      all_goals simp only [↓vp, vq0, vq1, vq2, vq3, vr0, vr1, vr2, vr3, vr4, vr5, vr6, vr7, vr8, vr9, vr10, vr11, vr12, vr13, vr14, vr15, vr16, vr17, vr18, vr19, vr20, vr21, vr22, vr23, vr24, vr25, vr26, vr27, vr28, vr29, vr30, vr31, vr32, vr33, vr34, opS, fpS, okP, pack, nAl, allocA, shId, leaves, fillA, fillR, splice, Nat.reduceLT, Nat.reduceEqDiff, Nat.reduceLeDiff, Nat.reduceAdd, Nat.reduceSub, Nat.reduceMul, Int.reduceBEq, Int.reduceBNe, Int.reduceLT, Int.reduceLE, Int.reduceEq, reduceIte, reduceCtorEq, da, int, boolA, h1, h2, h3, h26, h27]
theorem s47 (n : NodeM) (hs : n.items.length ≤ 1000) (hs2 : n.kids.length ≤ 1000) (H : Heap) : callL ft (.fn (.func 47) [] []) [.agg (nodeC n)] H = some (.agg (nodeC n), H) := by
  refine call_p (as' := [.agg (nodeC n)]) rfl rfl (by simp) ?_
  unfold c47 r47
  simp only [↓vp, vq0, vq1, vq2, vq3, vr0, vr1, vr2, vr3, vr4, vr5, vr6, vr7, vr8, vr9, vr10, vr11, vr12, vr13, vr14, vr15, vr16, vr17, vr18, vr19, vr20, vr21, vr22, vr23, vr24, vr25, vr26, vr27, vr28, vr29, vr30, vr31, vr32, vr33, vr34, opS, fpS, okP, pack, nAl, allocA, shId, leaves, fillA, fillR, splice, Nat.reduceLT, Nat.reduceEqDiff, Nat.reduceLeDiff, Nat.reduceAdd, Nat.reduceSub, Nat.reduceMul, Int.reduceBEq, Int.reduceBNe, Int.reduceLT, Int.reduceLE, Int.reduceEq, reduceIte, reduceCtorEq, da, int, boolA]
  rw [← hx_nil (hx _ _)]
  refine l47a n hs (B0 := .box false (nodeC n)) (B1 := .box false [.sc (.bool false), .sc (.slice none 0 0), .sc (.slice none 0 0)]) (by simp) (by simp) (fun f' K S hr k0 k1 k2 h1 h2 h3 => ?_) n.items.length 0 (.sc (.slice none 0 0)) _ _ (by omega) (.inl ⟨rfl, rfl⟩) ?_ ?_ ?_ ?_ ?_ ?_ ?_ ?_ ?_
  · unfold c47R3
    have l0 := Heap.get_lt k0
    have l1 := Heap.get_lt k1
    have l2 := Heap.get_lt k2
    have o0 := fun L => hx_get_old K L 0 l0
    have o1 := fun L => hx_get_old K L 1 l1
    have o2 := fun L => hx_get_old K L 2 l2
    simp only [↓vp, vq0, vq1, vq2, vq3, vr0, vr1, vr2, vr3, vr4, vr5, vr6, vr7, vr8, vr9, vr10, vr11, vr12, vr13, vr14, vr15, vr16, vr17, vr18, vr19, vr20, vr21, vr22, vr23, vr24, vr25, vr26, vr27, vr28, vr29, vr30, vr31, vr32, vr33, vr34, opS, fpS, okP, pack, nAl, allocA, shId, leaves, fillA, fillR, splice, Nat.reduceLT, Nat.reduceEqDiff, Nat.reduceLeDiff, Nat.reduceAdd, Nat.reduceSub, Nat.reduceMul, Int.reduceBEq, Int.reduceBNe, Int.reduceLT, Int.reduceLE, Int.reduceEq, reduceIte, reduceCtorEq, da, int, boolA, h1, h2, h3, o0, k0]
    refine l47b n hs2 (B0 := .box false (nodeC n)) (by simp) (by simp) (fun f'' K' T hr' hs' k0' k1' k2' h1' h2' h3' => ?_) n.kids.length 0 (.sc (.slice none 0 0)) _ _ (by omega) (.inl ⟨rfl, rfl⟩) hr k0 k1 k2 ?_ ?_ ?_ ?_ ?_ ?_
    · unfold c47R2
      have l1' := Heap.get_lt k1'
      have l2' := Heap.get_lt k2'
      have o1' := fun L => hx_get_old K' L 1 l1'
      have o2' := fun L => hx_get_old K' L 2 l2'
      have p1' := fun L b => hx_set_old K' L b 1 l1'
      have v1 : ∀ L b, (hx (K'.set 1 b) L).get 1 = some b := fun L b => by
        rw [hx_get_old _ _ _ (by simpa using l1'), Heap.get_set_self _ l1']
      have gg : ∀ {j : Nat} {B : Blk} (L : List Blk) (b : Blk), K'.get j = some B → j ≠ 1 → (hx (K'.set 1 b) L).get j = some B := fun L b hj hne => by
        rw [hx_get_old _ _ _ (by simpa using Heap.get_lt hj), Heap.get_set_ne _ hne]
        exact hj
      have gs : ∀ {j : Nat} (L : List Blk) (b c : Blk), j < K'.next → (hx (K'.set 1 b) L).set j c = hx ((K'.set 1 b).set j c) L := fun L b c hj => hx_set_old _ L c _ (by simpa using hj)
      have g3 : ∀ {i j : Nat} {B : Blk} (L : List Blk) (b c : Blk), K'.get j = some B → j ≠ 1 → j ≠ i → (hx ((K'.set 1 b).set i c) L).get j = some B := fun L b c hj hne hne2 => by
        rw [hx_get_old _ _ _ (by simpa using Heap.get_lt hj), Heap.get_set_ne _ hne2, Heap.get_set_ne _ hne]
        exact hj
      rcases hs' with ⟨rfl, e1⟩ | ⟨i1, rfl, g1⟩ <;> rcases hr' with ⟨rfl, e2⟩ | ⟨i2, rfl, g2⟩
      · simp only [↓vp, vq0, vq1, vq2, vq3, vr0, vr1, vr2, vr3, vr4, vr5, vr6, vr7, vr8, vr9, vr10, vr11, vr12, vr13, vr14, vr15, vr16, vr17, vr18, vr19, vr20, vr21, vr22, vr23, vr24, vr25, vr26, vr27, vr28, vr29, vr30, vr31, vr32, vr33, vr34, opS, fpS, okP, pack, nAl, allocA, shId, leaves, fillA, fillR, splice, Nat.reduceLT, Nat.reduceEqDiff, Nat.reduceLeDiff, Nat.reduceAdd, Nat.reduceSub, Nat.reduceMul, Int.reduceBEq, Int.reduceBNe, Int.reduceLT, Int.reduceLE, Int.reduceEq, reduceIte, reduceCtorEq, da, int, boolA, RetP_go, resT, resC, resN, retV1, retV2, retV3, retV0, frzFZ, takeM, Option.some.injEq, h1', h2', h3', o1', o2', k1', k2', p1', v1, nodeC, encI, encK, e1, e2]
      · have n2 : i2 ≠ 1 := fun e => by subst e; rw [k1'] at g2; cases g2
        have q2 := fun L b => gg L b g2 n2
        simp only [↓vp, vq0, vq1, vq2, vq3, vr0, vr1, vr2, vr3, vr4, vr5, vr6, vr7, vr8, vr9, vr10, vr11, vr12, vr13, vr14, vr15, vr16, vr17, vr18, vr19, vr20, vr21, vr22, vr23, vr24, vr25, vr26, vr27, vr28, vr29, vr30, vr31, vr32, vr33, vr34, opS, fpS, okP, pack, nAl, allocA, shId, leaves, fillA, fillR, splice, Nat.reduceLT, Nat.reduceEqDiff, Nat.reduceLeDiff, Nat.reduceAdd, Nat.reduceSub, Nat.reduceMul, Int.reduceBEq, Int.reduceBNe, Int.reduceLT, Int.reduceLE, Int.reduceEq, reduceIte, reduceCtorEq, da, int, boolA, RetP_go, resT, resC, resN, retV1, retV2, retV3, retV0, frzFZ, takeM, Option.some.injEq, h1', h2', h3', o1', o2', k1', k2', p1', v1, q2, nodeC, encI, encK, e1]
      · have n1 : i1 ≠ 1 := fun e => by subst e; rw [k1'] at g1; cases g1
        have q1 := fun L b => gg L b g1 n1
        simp only [↓vp, vq0, vq1, vq2, vq3, vr0, vr1, vr2, vr3, vr4, vr5, vr6, vr7, vr8, vr9, vr10, vr11, vr12, vr13, vr14, vr15, vr16, vr17, vr18, vr19, vr20, vr21, vr22, vr23, vr24, vr25, vr26, vr27, vr28, vr29, vr30, vr31, vr32, vr33, vr34, opS, fpS, okP, pack, nAl, allocA, shId, leaves, fillA, fillR, splice, Nat.reduceLT, Nat.reduceEqDiff, Nat.reduceLeDiff, Nat.reduceAdd, Nat.reduceSub, Nat.reduceMul, Int.reduceBEq, Int.reduceBNe, Int.reduceLT, Int.reduceLE, Int.reduceEq, reduceIte, reduceCtorEq, da, int, boolA, RetP_go, resT, resC, resN, retV1, retV2, retV3, retV0, frzFZ, takeM, Option.some.injEq, h1', h2', h3', o1', o2', k1', k2', p1', v1, q1, nodeC, encI, encK, e2]
      · have n1 : i1 ≠ 1 := fun e => by subst e; rw [k1'] at g1; cases g1
        have n2 : i2 ≠ 1 := fun e => by subst e; rw [k1'] at g2; cases g2
        have n12 : i2 ≠ i1 := fun e => by subst e; rw [g1] at g2; cases g2
        have q1 := fun L b => gg L b g1 n1
        have q2 := fun L b c => g3 (i := i1) L b c g2 n2 n12
        have q3 := fun L b c => gs L b c (Heap.get_lt g1)
        simp only [↓vp, vq0, vq1, vq2, vq3, vr0, vr1, vr2, vr3, vr4, vr5, vr6, vr7, vr8, vr9, vr10, vr11, vr12, vr13, vr14, vr15, vr16, vr17, vr18, vr19, vr20, vr21, vr22, vr23, vr24, vr25, vr26, vr27, vr28, vr29, vr30, vr31, vr32, vr33, vr34, opS, fpS, okP, pack, nAl, allocA, shId, leaves, fillA, fillR, splice, Nat.reduceLT, Nat.reduceEqDiff, Nat.reduceLeDiff, Nat.reduceAdd, Nat.reduceSub, Nat.reduceMul, Int.reduceBEq, Int.reduceBNe, Int.reduceLT, Int.reduceLE, Int.reduceEq, reduceIte, reduceCtorEq, da, int, boolA, RetP_go, resT, resC, resN, retV1, retV2, retV3, retV0, frzFZ, takeM, Option.some.injEq, h1', h2', h3', o1', o2', k1', k2', p1', v1, q1, q2, q3, nodeC, encI, encK]
    all_goals first | rfl | (simp only [↓vp, vq0, vq1, vq2, vq3, vr0, vr1, vr2, vr3, vr4, vr5, vr6, vr7, vr8, vr9, vr10, vr11, vr12, vr13, vr14, vr15, vr16, vr17, vr18, vr19, vr20, vr21, vr22, vr23, vr24, vr25, vr26, vr27, vr28, vr29, vr30, vr31, vr32, vr33, vr34, opS, fpS, okP, pack, nAl, allocA, shId, leaves, fillA, fillR, splice, Nat.reduceLT, Nat.reduceEqDiff, Nat.reduceLeDiff, Nat.reduceAdd, Nat.reduceSub, Nat.reduceMul, Int.reduceBEq, Int.reduceBNe, Int.reduceLT, Int.reduceLE, Int.reduceEq, reduceIte, reduceCtorEq, da, int, boolA, h1, h2, h3]; done)
  all_goals first | rfl | (simp only [↓vp, vq0, vq1, vq2, vq3, vr0, vr1, vr2, vr3, vr4, vr5, vr6, vr7, vr8, vr9, vr10, vr11, vr12, vr13, vr14, vr15, vr16, vr17, vr18, vr19, vr20, vr21, vr22, vr23, vr24, vr25, vr26, vr27, vr28, vr29, vr30, vr31, vr32, vr33, vr34, opS, fpS, okP, pack, nAl, allocA, shId, leaves, fillA, fillR, splice, Nat.reduceLT, Nat.reduceEqDiff, Nat.reduceLeDiff, Nat.reduceAdd, Nat.reduceSub, Nat.reduceMul, Int.reduceBEq, Int.reduceBNe, Int.reduceLT, Int.reduceLE, Int.reduceEq, reduceIte, reduceCtorEq, da, int, boolA]; done)
end Go.VI

/- VI, part SE: the program's Compare, Find, Side. -/
set_option linter.unusedVariables false
set_option linter.unusedSimpArgs false
set_option maxRecDepth 100000
namespace Go.VI
attribute [local congr] AW_congr OW_congr DW_congr NW_congr VW_congr GW_congr PW_congr KW_congr ite_congr' GV_congr CV_congr

theorem s53 (n : NodeM) (hs : n.items.length ≤ 1000) (hs2 : n.kids.length ≤ 1000) (H : Heap) : callL ft (.fn (.func 53) [] []) [.agg (nodeC n)] H = some (.agg (nodeC n), H) := by
  have := s47 n hs hs2 H
  rw [callL_fn] at this ⊢
  exact this

theorem s69 {a b : Bytes} (ha : okB a) (hb : okB b) (H : Heap) : callL ft (.fn (.func 69) [] []) [encB a, encB b] H = some (int (cmpB a b), H) := by
  refine call_pprim (p := cmpP) rfl (as' := [encB a, encB b]) rfl ?_
  show ((bytesOfRows (a.map byteC)).bind fun l => (bytesOfRows (b.map byteC)).bind fun k => if byteR l && byteR k then some (AV.sc (.int .i64 (cmpB l k))) else none) = _
  have h1 : bytesOfRows (a.map byteC) = some a := bytesOfRows_map a
  have h2 : bytesOfRows (b.map byteC) = some b := bytesOfRows_map b
  rw [h1, h2, Option.bind_some, Option.bind_some, ha.r, hb.r]
  rfl
theorem k69 {a b : Bytes} (ha : okB a) (hb : okB b) {K : Heap} {L : List Blk} {Q : AV → Heap → Prop} : KW ft (.fn (.func 69) [] []) [encB a, encB b] (hx K L) Q ↔ Q (int (cmpB a b)) (hx K L) := KW_of (s69 ha hb _)
theorem s65 {a b : Bytes} (ha : okB a) (hb : okB b) (H : Heap) : callL ft (.fn (.func 65) [] []) [encB a, encB b] H = some (int (cmpB a b), H) := by
  refine call_p (as' := [encB a, encB b]) rfl rfl (by simp) ?_
  unfold c65 r65
  simp only [↓vp, vq0, vq1, vq2, vq3, vr0, vr1, vr2, vr3, vr4, vr5, vr6, vr7, vr8, vr9, vr10, vr11, vr12, vr13, vr14, vr15, vr16, vr17, vr18, vr19, vr20, vr21, vr22, vr23, vr24, vr25, vr26, vr27, vr28, vr29, vr30, vr31, vr32, vr33, vr34, opS, fpS, okP, pack, nAl, allocA, shId, leaves, fillA, fillR, splice, Nat.reduceLT, Nat.reduceEqDiff, Nat.reduceLeDiff, Nat.reduceAdd, Nat.reduceSub, Nat.reduceMul, Int.reduceBEq, Int.reduceBNe, Int.reduceLT, Int.reduceLE, Int.reduceEq, reduceIte, reduceCtorEq, da, int, boolA, RetP_go, resT, resC, resN, retV1, retV2, retV3, retV0, frzFZ, takeM, Option.some.injEq, k69, ha, hb]
theorem k65 {a b : Bytes} (ha : okB a) (hb : okB b) {K : Heap} {L : List Blk} {Q : AV → Heap → Prop} : KW ft (.fn (.func 65) [] []) [encB a, encB b] (hx K L) Q ↔ Q (int (cmpB a b)) (hx K L) := KW_of (s65 ha hb _)
theorem s40 {a b : Bytes} (ha : okB a) (hb : okB b) (H : Heap) : callL ft (.fn (.func 40) [] []) [encB a, encB b] H = some (int (cmpB a b), H) := by
  refine call_p (as' := [encB a, encB b]) rfl rfl (by simp) ?_
  unfold c40 r40
  simp only [↓vp, vq0, vq1, vq2, vq3, vr0, vr1, vr2, vr3, vr4, vr5, vr6, vr7, vr8, vr9, vr10, vr11, vr12, vr13, vr14, vr15, vr16, vr17, vr18, vr19, vr20, vr21, vr22, vr23, vr24, vr25, vr26, vr27, vr28, vr29, vr30, vr31, vr32, vr33, vr34, opS, fpS, okP, pack, nAl, allocA, shId, leaves, fillA, fillR, splice, Nat.reduceLT, Nat.reduceEqDiff, Nat.reduceLeDiff, Nat.reduceAdd, Nat.reduceSub, Nat.reduceMul, Int.reduceBEq, Int.reduceBNe, Int.reduceLT, Int.reduceLE, Int.reduceEq, reduceIte, reduceCtorEq, da, int, boolA, RetP_go, resT, resC, resN, retV1, retV2, retV3, retV0, frzFZ, takeM, Option.some.injEq, k65, ha, hb]
theorem k40 {a b : Bytes} (ha : okB a) (hb : okB b) {K : Heap} {L : List Blk} {Q : AV → Heap → Prop} : KW ft (.fn (.func 40) [] []) [encB a, encB b] (hx K L) Q ↔ Q (int (cmpB a b)) (hx K L) := KW_of (s40 ha hb _)
theorem s67 {x : ItemM} {b : Bytes} (ha : okB x.key) (hb : okB b) (H : Heap) : callL ft (.fn (.func 67) [] []) [.agg (itemC x), encB b] H = some (int (cmpB x.key b), H) := by
  refine call_p (as' := [.agg (itemC x), encB b]) rfl rfl (by simp) ?_
  unfold c67 r67
  simp only [↓vp, vq0, vq1, vq2, vq3, vr0, vr1, vr2, vr3, vr4, vr5, vr6, vr7, vr8, vr9, vr10, vr11, vr12, vr13, vr14, vr15, vr16, vr17, vr18, vr19, vr20, vr21, vr22, vr23, vr24, vr25, vr26, vr27, vr28, vr29, vr30, vr31, vr32, vr33, vr34, opS, fpS, okP, pack, nAl, allocA, shId, leaves, fillA, fillR, splice, Nat.reduceLT, Nat.reduceEqDiff, Nat.reduceLeDiff, Nat.reduceAdd, Nat.reduceSub, Nat.reduceMul, Int.reduceBEq, Int.reduceBNe, Int.reduceLT, Int.reduceLE, Int.reduceEq, reduceIte, reduceCtorEq, da, int, boolA, RetP_go, resT, resC, resN, retV1, retV2, retV3, retV0, frzFZ, takeM, Option.some.injEq, k40, ha, hb]
theorem k67 {x : ItemM} {b : Bytes} (ha : okB x.key) (hb : okB b) {K : Heap} {L : List Blk} {Q : AV → Heap → Prop} : KW ft (.fn (.func 67) [] []) [.agg (itemC x), encB b] (hx K L) Q ↔ Q (int (cmpB x.key b)) (hx K L) := KW_of (s67 ha hb _)

/-! ### the binary search -/
/-- Where it stops: between i and j. -/
def bsG (l : List ItemM) (key : Bytes) : Nat → Nat → Nat → Nat
  | 0, i, _ => i
  | n + 1, i, j => if i < j then (if cmpB ((l[(i + j) / 2]?).elim [] (·.key)) key < 0 then bsG l key n ((i + j) / 2 + 1) j else bsG l key n i ((i + j) / 2)) else i
def bsM (l : List ItemM) (key : Bytes) : Nat := bsG l key (l.length + 1) 0 l.length
theorem bin_shr1 (t : TypeId) (a : Int) : binA .shr t (.sc (.int .u64 a)) (.sc (.int .u64 1)) = some (.sc (.int .u64 (a.fdiv 2))) := by
  simp [binA, binOp, Op.shift, pureRun, ofScalar, isSc, pure, IntKind.bits]
theorem u64_in {n : Int} (h : 0 ≤ n ∧ n < 18446744073709551616) : IntKind.u64.wrap n = n := by
  simp only [IntKind.wrap, IntKind.bits, IntKind.signed]
  simp
  omega
theorem l66 (l : List ItemM) (key : Bytes) (hl : okI l) (hl2 : l.length < 4000000000000000000) (hk : okB key) {Q : AExit → Env → Heap → Prop}
   (hex : ∀ f', f' 0 = encI l → f' 1 = encB key → f' 2 = .fn (.func 67) [] [] → f' 8 = int l.length → f' 9 = int (bsM l key) → Q (.exit 0) (mkE 49 f') (hx Heap.empty [])) :
   ∀ (n i j : Nat) (f : Nat → AV), j < i + n → i ≤ j → j ≤ l.length → bsM l key = bsG l key n i j → f 0 = encI l → f 1 = encB key → f 2 = .fn (.func 67) [] [] → f 8 = int l.length → f 9 = int i → f 10 = int j →
    AW ft (.loop c66L0) (mkE 49 f) (hx Heap.empty []) Q := by
  intro n
  induction n with
  | zero => intro i j f hn hij; omega
  | succ n ih =>
    intro i j f hn hij hjl hc h0 h1 h2 h8 h9 h10
    rw [AW_loop]
    unfold c66L0
    by_cases hlt : i < j
    · have g : ((i : Int) < j) = True := by simp; omega
      have gi : (i + j) / 2 < l.length := by omega
      have w1 := wrap_succ (show (i + j) / 2 < 9223372036854775807 by omega)
      simp only [↓vp, vq0, vq1, vq2, vq3, vr0, vr1, vr2, vr3, vr4, vr5, vr6, vr7, vr8, vr9, vr10, vr11, vr12, vr13, vr14, vr15, vr16, vr17, vr18, vr19, vr20, vr21, vr22, vr23, vr24, vr25, vr26, vr27, vr28, vr29, vr30, vr31, vr32, vr33, vr34, opS, fpS, okP, pack, nAl, allocA, shId, leaves, fillA, fillR, splice, Nat.reduceLT, Nat.reduceEqDiff, Nat.reduceLeDiff, Nat.reduceAdd, Nat.reduceSub, Nat.reduceMul, Int.reduceBEq, Int.reduceBNe, Int.reduceLT, Int.reduceLE, Int.reduceEq, reduceIte, reduceCtorEq, da, int, boolA, h0, h1, h2, h8, h9, h10, g]
      have q1 : IntKind.u64.wrap (IntKind.i64.wrap ((i : Int) + j)) = ((i + j : Nat) : Int) := by
        rw [wrap_i64 (by omega), u64_in (by omega)]; omega
      have q2 : ((i + j : Nat) : Int).fdiv 2 = (((i + j) / 2 : Nat) : Int) := by
        rw [Int.fdiv_eq_ediv_of_nonneg _ (by omega)]; omega
      have q3 : IntKind.i64.wrap (((i + j) / 2 : Nat) : Int) = (((i + j) / 2 : Nat) : Int) := wrap_i64 (by omega)
      have hx1 := (hl.at_ gi).k
      have hel : (l[(i + j) / 2]?).elim [] (·.key) = l[(i + j) / 2].key := by rw [List.getElem?_eq_getElem gi]; rfl
      rw [bsG, if_pos hlt, hel] at hc
      by_cases e1 : cmpB l[(i + j) / 2].key key < 0
      · rw [if_pos e1] at hc
        simp only [↓vp, vq0, vq1, vq2, vq3, vr0, vr1, vr2, vr3, vr4, vr5, vr6, vr7, vr8, vr9, vr10, vr11, vr12, vr13, vr14, vr15, vr16, vr17, vr18, vr19, vr20, vr21, vr22, vr23, vr24, vr25, vr26, vr27, vr28, vr29, vr30, vr31, vr32, vr33, vr34, opS, fpS, okP, pack, nAl, allocA, shId, leaves, fillA, fillR, splice, Nat.reduceLT, Nat.reduceEqDiff, Nat.reduceLeDiff, Nat.reduceAdd, Nat.reduceSub, Nat.reduceMul, Int.reduceBEq, Int.reduceBNe, Int.reduceLT, Int.reduceLE, Int.reduceEq, reduceIte, reduceCtorEq, da, int, boolA, h0, h1, h2, h8, h9, h10, g, q1, q2, q3, bin_shr1, atI gi, cI gi, k67, hx1, hk, e1, w1]
        refine ih ((i + j) / 2 + 1) j _ (by omega) (by omega) hjl hc ?_ ?_ ?_ ?_ ?_ ?_ <;> simp only [↓vp, vq0, vq1, vq2, vq3, vr0, vr1, vr2, vr3, vr4, vr5, vr6, vr7, vr8, vr9, vr10, vr11, vr12, vr13, vr14, vr15, vr16, vr17, vr18, vr19, vr20, vr21, vr22, vr23, vr24, vr25, vr26, vr27, vr28, vr29, vr30, vr31, vr32, vr33, vr34, opS, fpS, okP, pack, nAl, allocA, shId, leaves, fillA, fillR, splice, Nat.reduceLT, Nat.reduceEqDiff, Nat.reduceLeDiff, Nat.reduceAdd, Nat.reduceSub, Nat.reduceMul, Int.reduceBEq, Int.reduceBNe, Int.reduceLT, Int.reduceLE, Int.reduceEq, reduceIte, reduceCtorEq, da, int, boolA, h0, h1, h2, h8, h9, h10]
      · rw [if_neg e1] at hc
        simp only [↓vp, vq0, vq1, vq2, vq3, vr0, vr1, vr2, vr3, vr4, vr5, vr6, vr7, vr8, vr9, vr10, vr11, vr12, vr13, vr14, vr15, vr16, vr17, vr18, vr19, vr20, vr21, vr22, vr23, vr24, vr25, vr26, vr27, vr28, vr29, vr30, vr31, vr32, vr33, vr34, opS, fpS, okP, pack, nAl, allocA, shId, leaves, fillA, fillR, splice, Nat.reduceLT, Nat.reduceEqDiff, Nat.reduceLeDiff, Nat.reduceAdd, Nat.reduceSub, Nat.reduceMul, Int.reduceBEq, Int.reduceBNe, Int.reduceLT, Int.reduceLE, Int.reduceEq, reduceIte, reduceCtorEq, da, int, boolA, h0, h1, h2, h8, h9, h10, g, q1, q2, q3, bin_shr1, atI gi, cI gi, k67, hx1, hk, e1, w1]
        refine ih i ((i + j) / 2) _ (by omega) (by omega) (by omega) hc ?_ ?_ ?_ ?_ ?_ ?_ <;> simp only [↓vp, vq0, vq1, vq2, vq3, vr0, vr1, vr2, vr3, vr4, vr5, vr6, vr7, vr8, vr9, vr10, vr11, vr12, vr13, vr14, vr15, vr16, vr17, vr18, vr19, vr20, vr21, vr22, vr23, vr24, vr25, vr26, vr27, vr28, vr29, vr30, vr31, vr32, vr33, vr34, opS, fpS, okP, pack, nAl, allocA, shId, leaves, fillA, fillR, splice, Nat.reduceLT, Nat.reduceEqDiff, Nat.reduceLeDiff, Nat.reduceAdd, Nat.reduceSub, Nat.reduceMul, Int.reduceBEq, Int.reduceBNe, Int.reduceLT, Int.reduceLE, Int.reduceEq, reduceIte, reduceCtorEq, da, int, boolA, h0, h1, h2, h8, h9, h10]
    · have g : ((i : Int) < j) = False := by simp; omega
      rw [bsG, if_neg hlt] at hc
      simp only [↓vp, vq0, vq1, vq2, vq3, vr0, vr1, vr2, vr3, vr4, vr5, vr6, vr7, vr8, vr9, vr10, vr11, vr12, vr13, vr14, vr15, vr16, vr17, vr18, vr19, vr20, vr21, vr22, vr23, vr24, vr25, vr26, vr27, vr28, vr29, vr30, vr31, vr32, vr33, vr34, opS, fpS, okP, pack, nAl, allocA, shId, leaves, fillA, fillR, splice, Nat.reduceLT, Nat.reduceEqDiff, Nat.reduceLeDiff, Nat.reduceAdd, Nat.reduceSub, Nat.reduceMul, Int.reduceBEq, Int.reduceBNe, Int.reduceLT, Int.reduceLE, Int.reduceEq, reduceIte, reduceCtorEq, da, int, boolA, h9, h10, g]
      refine hex _ ?_ ?_ ?_ ?_ ?_ <;> simp only [↓vp, vq0, vq1, vq2, vq3, vr0, vr1, vr2, vr3, vr4, vr5, vr6, vr7, vr8, vr9, vr10, vr11, vr12, vr13, vr14, vr15, vr16, vr17, vr18, vr19, vr20, vr21, vr22, vr23, vr24, vr25, vr26, vr27, vr28, vr29, vr30, vr31, vr32, vr33, vr34, opS, fpS, okP, pack, nAl, allocA, shId, leaves, fillA, fillR, splice, Nat.reduceLT, Nat.reduceEqDiff, Nat.reduceLeDiff, Nat.reduceAdd, Nat.reduceSub, Nat.reduceMul, Int.reduceBEq, Int.reduceBNe, Int.reduceLT, Int.reduceLE, Int.reduceEq, reduceIte, reduceCtorEq, da, int, boolA, h0, h1, h2, h8, h9, hc]
/-- Does it stand where the search stopped? -/
def bsIs (l : List ItemM) (key : Bytes) : Bool := match l[bsM l key]? with
  | some x => cmpB x.key key == 0
  | none => false
theorem s66 (l : List ItemM) (key : Bytes) (hl : okI l) (hl2 : l.length < 4000000000000000000) (hk : okB key) (H : Heap) : callL ft (.fn (.func 66) [] []) [encI l, encB key, .fn (.func 67) [] []] H = some (.tup [int (bsM l key), boolA (bsIs l key)], H) := by
  refine call_p (as' := [encI l, encB key, .fn (.func 67) [] []]) rfl rfl (by simp) ?_
  unfold c66 r66
  simp only [↓vp, vq0, vq1, vq2, vq3, vr0, vr1, vr2, vr3, vr4, vr5, vr6, vr7, vr8, vr9, vr10, vr11, vr12, vr13, vr14, vr15, vr16, vr17, vr18, vr19, vr20, vr21, vr22, vr23, vr24, vr25, vr26, vr27, vr28, vr29, vr30, vr31, vr32, vr33, vr34, opS, fpS, okP, pack, nAl, allocA, shId, leaves, fillA, fillR, splice, Nat.reduceLT, Nat.reduceEqDiff, Nat.reduceLeDiff, Nat.reduceAdd, Nat.reduceSub, Nat.reduceMul, Int.reduceBEq, Int.reduceBNe, Int.reduceLT, Int.reduceLE, Int.reduceEq, reduceIte, reduceCtorEq, da, int, boolA]
  refine l66 l key hl hl2 hk (fun f' h0 h1 h2 h8 h9 => ?_) (l.length + 1) 0 l.length _ (by omega) (by omega) (by omega) rfl ?_ ?_ ?_ ?_ ?_ ?_
  · unfold c66R1
    by_cases g : bsM l key < l.length
    · have g' : ((bsM l key : Int) < l.length) = True := by simp; omega
      have hx1 := (hl.at_ g).k
      have hel : l[bsM l key]? = some l[bsM l key] := List.getElem?_eq_getElem g
      simp only [↓vp, vq0, vq1, vq2, vq3, vr0, vr1, vr2, vr3, vr4, vr5, vr6, vr7, vr8, vr9, vr10, vr11, vr12, vr13, vr14, vr15, vr16, vr17, vr18, vr19, vr20, vr21, vr22, vr23, vr24, vr25, vr26, vr27, vr28, vr29, vr30, vr31, vr32, vr33, vr34, opS, fpS, okP, pack, nAl, allocA, shId, leaves, fillA, fillR, splice, Nat.reduceLT, Nat.reduceEqDiff, Nat.reduceLeDiff, Nat.reduceAdd, Nat.reduceSub, Nat.reduceMul, Int.reduceBEq, Int.reduceBNe, Int.reduceLT, Int.reduceLE, Int.reduceEq, reduceIte, reduceCtorEq, da, int, boolA, RetP_go, resT, resC, resN, retV1, retV2, retV3, retV0, frzFZ, takeM, Option.some.injEq, h0, h1, h2, h8, h9, g', atI g, cI g, k67, hx1, hk, bsIs, hel]
    · have g' : ((bsM l key : Int) < l.length) = False := by simp; omega
      have hel : l[bsM l key]? = none := List.getElem?_eq_none (by omega)
      simp only [↓vp, vq0, vq1, vq2, vq3, vr0, vr1, vr2, vr3, vr4, vr5, vr6, vr7, vr8, vr9, vr10, vr11, vr12, vr13, vr14, vr15, vr16, vr17, vr18, vr19, vr20, vr21, vr22, vr23, vr24, vr25, vr26, vr27, vr28, vr29, vr30, vr31, vr32, vr33, vr34, opS, fpS, okP, pack, nAl, allocA, shId, leaves, fillA, fillR, splice, Nat.reduceLT, Nat.reduceEqDiff, Nat.reduceLeDiff, Nat.reduceAdd, Nat.reduceSub, Nat.reduceMul, Int.reduceBEq, Int.reduceBNe, Int.reduceLT, Int.reduceLE, Int.reduceEq, reduceIte, reduceCtorEq, da, int, boolA, RetP_go, resT, resC, resN, retV1, retV2, retV3, retV0, frzFZ, takeM, Option.some.injEq, h0, h1, h2, h8, h9, g', bsIs, hel]
  all_goals first | rfl | (simp only [↓vp, vq0, vq1, vq2, vq3, vr0, vr1, vr2, vr3, vr4, vr5, vr6, vr7, vr8, vr9, vr10, vr11, vr12, vr13, vr14, vr15, vr16, vr17, vr18, vr19, vr20, vr21, vr22, vr23, vr24, vr25, vr26, vr27, vr28, vr29, vr30, vr31, vr32, vr33, vr34, opS, fpS, okP, pack, nAl, allocA, shId, leaves, fillA, fillR, splice, Nat.reduceLT, Nat.reduceEqDiff, Nat.reduceLeDiff, Nat.reduceAdd, Nat.reduceSub, Nat.reduceMul, Int.reduceBEq, Int.reduceBNe, Int.reduceLT, Int.reduceLE, Int.reduceEq, reduceIte, reduceCtorEq, da, int, boolA]; done)
theorem k66 {l : List ItemM} {key : Bytes} (hl : okI l) (hl2 : l.length < 4000000000000000000) (hk : okB key) {K : Heap} {L : List Blk} {Q : AV → Heap → Prop} :
    KW ft (.fn (.func 66) [] []) [encI l, encB key, .fn (.func 67) [] []] (hx K L) Q ↔ Q (.tup [int (bsM l key), boolA (bsIs l key)]) (hx K L) := KW_of (s66 l key hl hl2 hk _)
theorem s43 (n : NodeM) (key : Bytes) (hn : okN n) (hl2 : n.items.length < 4000000000000000000) (hk : okB key) (H : Heap) : callL ft (.fn (.func 43) [] []) [.agg (nodeC n), encB key] H = some (.tup [int (bsM n.items key), boolA (bsIs n.items key)], H) := by
  refine call_p (as' := [.agg (nodeC n), encB key]) rfl rfl (by simp) ?_
  have h1 := hn.i
  unfold c43 r43
  simp only [↓vp, vq0, vq1, vq2, vq3, vr0, vr1, vr2, vr3, vr4, vr5, vr6, vr7, vr8, vr9, vr10, vr11, vr12, vr13, vr14, vr15, vr16, vr17, vr18, vr19, vr20, vr21, vr22, vr23, vr24, vr25, vr26, vr27, vr28, vr29, vr30, vr31, vr32, vr33, vr34, opS, fpS, okP, pack, nAl, allocA, shId, leaves, fillA, fillR, splice, Nat.reduceLT, Nat.reduceEqDiff, Nat.reduceLeDiff, Nat.reduceAdd, Nat.reduceSub, Nat.reduceMul, Int.reduceBEq, Int.reduceBNe, Int.reduceLT, Int.reduceLE, Int.reduceEq, reduceIte, reduceCtorEq, da, int, boolA, RetP_go, resT, resC, resN, retV1, retV2, retV3, retV0, frzFZ, takeM, Option.some.injEq, k66, h1, hl2, hk]
theorem k43 {n : NodeM} {key : Bytes} (hn : okN n) (hl2 : n.items.length < 4000000000000000000) (hk : okB key) {K : Heap} {L : List Blk} {Q : AV → Heap → Prop} :
    KW ft (.fn (.func 43) [] []) [.agg (nodeC n), encB key] (hx K L) Q ↔ Q (.tup [int (bsM n.items key), boolA (bsIs n.items key)]) (hx K L) := KW_of (s43 n key hn hl2 hk _)
end Go.VI

/- VI, part SF: the program's Side; the ways' choices; the source. -/
set_option linter.unusedVariables false
set_option linter.unusedSimpArgs false
set_option maxRecDepth 100000
namespace Go.VI
attribute [local congr] AW_congr OW_congr DW_congr NW_congr VW_congr GW_congr PW_congr KW_congr ite_congr' GV_congr CV_congr

def sideD (l : List KidM) (key : Bytes) : Nat → Nat
  | 0 => 0
  | k + 1 => if 0 < cmpB ((l[k + 1]?).elim [] (·.key)) key then sideD l key k else k + 1
def sideP (l : List KidM) (key : Bytes) : Nat := sideD l key (l.length - 1)
theorem wrap_pred {i : Nat} (h : i < 9223372036854775807) : IntKind.i64.wrap (((i + 1 : Nat) : Int) - 1) = (i : Int) := by
  rw [wrap_i64 (by omega)]; omega
theorem l44 (n : NodeM) (key : Bytes) (hn : okN n) (hk : okB key) {L : List Blk} {Q : AExit → Env → Heap → Prop} (hL : L[0]? = some (.box false (nodeC n)))
   (hex : ∀ f', f' 5 = int (sideP n.kids key) → Q (.exit 0) (mkE 27 f') (hx Heap.empty L)) :
   ∀ (k : Nat) (f : Nat → AV), k < n.kids.length → sideP n.kids key = sideD n.kids key k → f 1 = encB key → f 2 = .ptr 0 0 0 → f 5 = int k →
    AW ft (.loop c44L0) (mkE 27 f) (hx Heap.empty L) Q := by
  intro k
  have hi := hn.k.n
  unfold MX at hi
  induction k with
  | zero =>
    intro f hd hc h1 h2 h5
    rw [AW_loop]
    unfold c44L0
    have g : ((0 : Int) < ((0 : Nat) : Int)) = False := by simp
    simp only [↓vp, vq0, vq1, vq2, vq3, vr0, vr1, vr2, vr3, vr4, vr5, vr6, vr7, vr8, vr9, vr10, vr11, vr12, vr13, vr14, vr15, vr16, vr17, vr18, vr19, vr20, vr21, vr22, vr23, vr24, vr25, vr26, vr27, vr28, vr29, vr30, vr31, vr32, vr33, vr34, opS, fpS, okP, pack, nAl, allocA, shId, leaves, fillA, fillR, splice, Nat.reduceLT, Nat.reduceEqDiff, Nat.reduceLeDiff, Nat.reduceAdd, Nat.reduceSub, Nat.reduceMul, Int.reduceBEq, Int.reduceBNe, Int.reduceLT, Int.reduceLE, Int.reduceEq, reduceIte, reduceCtorEq, da, int, boolA, hL, h1, h2, h5, g]
    refine hex _ ?_
    simp only [↓vp, vq0, vq1, vq2, vq3, vr0, vr1, vr2, vr3, vr4, vr5, vr6, vr7, vr8, vr9, vr10, vr11, vr12, vr13, vr14, vr15, vr16, vr17, vr18, vr19, vr20, vr21, vr22, vr23, vr24, vr25, vr26, vr27, vr28, vr29, vr30, vr31, vr32, vr33, vr34, opS, fpS, okP, pack, nAl, allocA, shId, leaves, fillA, fillR, splice, Nat.reduceLT, Nat.reduceEqDiff, Nat.reduceLeDiff, Nat.reduceAdd, Nat.reduceSub, Nat.reduceMul, Int.reduceBEq, Int.reduceBNe, Int.reduceLT, Int.reduceLE, Int.reduceEq, reduceIte, reduceCtorEq, da, int, boolA, h5, hc, sideD]
  | succ k ih =>
    intro f hd hc h1 h2 h5
    have g : ((0 : Int) < ((k + 1 : Nat) : Int)) = True := eq_true (by omega)
    have hkey := hn.k.at_ hd
    have w1 := wrap_pred (show k < 9223372036854775807 by omega)
    rw [sideD, List.getElem?_eq_getElem hd, Option.elim_some] at hc
    rw [AW_loop]
    unfold c44L0
    by_cases e1 : 0 < cmpB n.kids[k + 1].key key
    · rw [if_pos e1] at hc
      simp only [↓vp, vq0, vq1, vq2, vq3, vr0, vr1, vr2, vr3, vr4, vr5, vr6, vr7, vr8, vr9, vr10, vr11, vr12, vr13, vr14, vr15, vr16, vr17, vr18, vr19, vr20, vr21, vr22, vr23, vr24, vr25, vr26, vr27, vr28, vr29, vr30, vr31, vr32, vr33, vr34, opS, fpS, okP, pack, nAl, allocA, shId, leaves, fillA, fillR, splice, Nat.reduceLT, Nat.reduceEqDiff, Nat.reduceLeDiff, Nat.reduceAdd, Nat.reduceSub, Nat.reduceMul, Int.reduceBEq, Int.reduceBNe, Int.reduceLT, Int.reduceLE, Int.reduceEq, reduceIte, reduceCtorEq, da, int, boolA, hL, h1, h2, h5, g, atK hd, cK hd, k40, hkey, hk, e1, w1]
      refine ih _ (by omega) hc ?_ ?_ ?_ <;> simp only [↓vp, vq0, vq1, vq2, vq3, vr0, vr1, vr2, vr3, vr4, vr5, vr6, vr7, vr8, vr9, vr10, vr11, vr12, vr13, vr14, vr15, vr16, vr17, vr18, vr19, vr20, vr21, vr22, vr23, vr24, vr25, vr26, vr27, vr28, vr29, vr30, vr31, vr32, vr33, vr34, opS, fpS, okP, pack, nAl, allocA, shId, leaves, fillA, fillR, splice, Nat.reduceLT, Nat.reduceEqDiff, Nat.reduceLeDiff, Nat.reduceAdd, Nat.reduceSub, Nat.reduceMul, Int.reduceBEq, Int.reduceBNe, Int.reduceLT, Int.reduceLE, Int.reduceEq, reduceIte, reduceCtorEq, da, int, boolA, h1, h2, h5]
    · rw [if_neg e1] at hc
      simp only [↓vp, vq0, vq1, vq2, vq3, vr0, vr1, vr2, vr3, vr4, vr5, vr6, vr7, vr8, vr9, vr10, vr11, vr12, vr13, vr14, vr15, vr16, vr17, vr18, vr19, vr20, vr21, vr22, vr23, vr24, vr25, vr26, vr27, vr28, vr29, vr30, vr31, vr32, vr33, vr34, opS, fpS, okP, pack, nAl, allocA, shId, leaves, fillA, fillR, splice, Nat.reduceLT, Nat.reduceEqDiff, Nat.reduceLeDiff, Nat.reduceAdd, Nat.reduceSub, Nat.reduceMul, Int.reduceBEq, Int.reduceBNe, Int.reduceLT, Int.reduceLE, Int.reduceEq, reduceIte, reduceCtorEq, da, int, boolA, hL, h1, h2, h5, g, atK hd, cK hd, k40, hkey, hk, e1, w1]
      refine hex _ ?_
      simp only [↓vp, vq0, vq1, vq2, vq3, vr0, vr1, vr2, vr3, vr4, vr5, vr6, vr7, vr8, vr9, vr10, vr11, vr12, vr13, vr14, vr15, vr16, vr17, vr18, vr19, vr20, vr21, vr22, vr23, vr24, vr25, vr26, vr27, vr28, vr29, vr30, vr31, vr32, vr33, vr34, opS, fpS, okP, pack, nAl, allocA, shId, leaves, fillA, fillR, splice, Nat.reduceLT, Nat.reduceEqDiff, Nat.reduceLeDiff, Nat.reduceAdd, Nat.reduceSub, Nat.reduceMul, Int.reduceBEq, Int.reduceBNe, Int.reduceLT, Int.reduceLE, Int.reduceEq, reduceIte, reduceCtorEq, da, int, boolA, h5, hc]
theorem s44 (n : NodeM) (key : Bytes) (hn : okN n) (hk : okB key) (H : Heap) : callL ft (.fn (.func 44) [] []) [.agg (nodeC n), encB key] H = some (int (sideP n.kids key), H) := by
  refine call_p (as' := [.agg (nodeC n), encB key]) rfl rfl (by simp) ?_
  have hi := hn.k.n
  unfold MX at hi
  unfold c44 r44
  simp only [↓vp, vq0, vq1, vq2, vq3, vr0, vr1, vr2, vr3, vr4, vr5, vr6, vr7, vr8, vr9, vr10, vr11, vr12, vr13, vr14, vr15, vr16, vr17, vr18, vr19, vr20, vr21, vr22, vr23, vr24, vr25, vr26, vr27, vr28, vr29, vr30, vr31, vr32, vr33, vr34, opS, fpS, okP, pack, nAl, allocA, shId, leaves, fillA, fillR, splice, Nat.reduceLT, Nat.reduceEqDiff, Nat.reduceLeDiff, Nat.reduceAdd, Nat.reduceSub, Nat.reduceMul, Int.reduceBEq, Int.reduceBNe, Int.reduceLT, Int.reduceLE, Int.reduceEq, reduceIte, reduceCtorEq, da, int, boolA]
  by_cases h0 : n.kids.length = 0
  · have w0 : IntKind.i64.wrap ((n.kids.length : Int) - 1) = -1 := by rw [wrap_i64 (by omega)]; omega
    have g : ((0 : Int) < -1) = False := by simp
    rw [AW_loop, w0]
    unfold c44L0 c44R1
    have hs : sideP n.kids key = 0 := by rw [sideP, h0]; rfl
    simp only [↓vp, vq0, vq1, vq2, vq3, vr0, vr1, vr2, vr3, vr4, vr5, vr6, vr7, vr8, vr9, vr10, vr11, vr12, vr13, vr14, vr15, vr16, vr17, vr18, vr19, vr20, vr21, vr22, vr23, vr24, vr25, vr26, vr27, vr28, vr29, vr30, vr31, vr32, vr33, vr34, opS, fpS, okP, pack, nAl, allocA, shId, leaves, fillA, fillR, splice, Nat.reduceLT, Nat.reduceEqDiff, Nat.reduceLeDiff, Nat.reduceAdd, Nat.reduceSub, Nat.reduceMul, Int.reduceBEq, Int.reduceBNe, Int.reduceLT, Int.reduceLE, Int.reduceEq, reduceIte, reduceCtorEq, da, int, boolA, RetP_go, resT, resC, resN, retV1, retV2, retV3, retV0, frzFZ, takeM, Option.some.injEq, g]
    rw [hs]; rfl
  · refine l44 n key hn hk rfl (fun f' h5 => ?_) (n.kids.length - 1) _ (by omega) rfl ?_ ?_ ?_
    · unfold c44R1
      have g : ((sideP n.kids key : Int) < 0) = False := by simp
      simp only [↓vp, vq0, vq1, vq2, vq3, vr0, vr1, vr2, vr3, vr4, vr5, vr6, vr7, vr8, vr9, vr10, vr11, vr12, vr13, vr14, vr15, vr16, vr17, vr18, vr19, vr20, vr21, vr22, vr23, vr24, vr25, vr26, vr27, vr28, vr29, vr30, vr31, vr32, vr33, vr34, opS, fpS, okP, pack, nAl, allocA, shId, leaves, fillA, fillR, splice, Nat.reduceLT, Nat.reduceEqDiff, Nat.reduceLeDiff, Nat.reduceAdd, Nat.reduceSub, Nat.reduceMul, Int.reduceBEq, Int.reduceBNe, Int.reduceLT, Int.reduceLE, Int.reduceEq, reduceIte, reduceCtorEq, da, int, boolA, RetP_go, resT, resC, resN, retV1, retV2, retV3, retV0, frzFZ, takeM, Option.some.injEq, h5, g]
    · rfl
    · rfl
    · simp only [↓vp, vq0, vq1, vq2, vq3, vr0, vr1, vr2, vr3, vr4, vr5, vr6, vr7, vr8, vr9, vr10, vr11, vr12, vr13, vr14, vr15, vr16, vr17, vr18, vr19, vr20, vr21, vr22, vr23, vr24, vr25, vr26, vr27, vr28, vr29, vr30, vr31, vr32, vr33, vr34, opS, fpS, okP, pack, nAl, allocA, shId, leaves, fillA, fillR, splice, Nat.reduceLT, Nat.reduceEqDiff, Nat.reduceLeDiff, Nat.reduceAdd, Nat.reduceSub, Nat.reduceMul, Int.reduceBEq, Int.reduceBNe, Int.reduceLT, Int.reduceLE, Int.reduceEq, reduceIte, reduceCtorEq, da, int, boolA]
      rw [wrap_i64 (by omega)]
      congr 2
      omega
theorem k44 {n : NodeM} {key : Bytes} (hn : okN n) (hk : okB key) {K : Heap} {L : List Blk} {Q : AV → Heap → Prop} :
    KW ft (.fn (.func 44) [] []) [.agg (nodeC n), encB key] (hx K L) Q ↔ Q (int (sideP n.kids key)) (hx K L) := KW_of (s44 n key hn hk _)
theorem k46 {l : List NamedM} {ref : Int} (hl : okL l) {K : Heap} {L : List Blk} {Q : AV → Heap → Prop} :
    KW ft (.fn (.func 46) [] []) [encL l, int ref] (hx K L) Q ↔ Q (.tup [.agg (nodeC (nodeM l ref).1), int (nodeM l ref).2]) (hx K L) := KW_of (s46 l ref hl _)
theorem k47 {n : NodeM} (h1 : n.items.length ≤ 1000) (h2 : n.kids.length ≤ 1000) {K : Heap} {L : List Blk} {Q : AV → Heap → Prop} :
    KW ft (.fn (.func 47) [] []) [.agg (nodeC n)] (hx K L) Q ↔ Q (.agg (nodeC n)) (hx K L) := KW_of (s47 n h1 h2 _)
theorem k53 {n : NodeM} (h1 : n.items.length ≤ 1000) (h2 : n.kids.length ≤ 1000) {K : Heap} {L : List Blk} {Q : AV → Heap → Prop} :
    KW ft (.fn (.func 53) [] []) [.agg (nodeC n)] (hx K L) Q ↔ Q (.agg (nodeC n)) (hx K L) := KW_of (s53 n h1 h2 _)

/-! ### the source -/
/-- No node has many parts. -/
def tinyL (l : List NamedM) : Prop := ∀ x ∈ l, x.n.items.length ≤ 1000 ∧ x.n.kids.length ≤ 1000
theorem tiny_node {l : List NamedM} (h : tinyL l) (ref : Int) : (nodeM l ref).1.items.length ≤ 1000 ∧ (nodeM l ref).1.kids.length ≤ 1000 := by
  unfold nodeM
  split
  · rename_i x hx
    exact h x (List.mem_of_find?_eq_some hx)
  · simp
theorem ok_node {l : List NamedM} (h : okL l) (ref : Int) : okN (nodeM l ref).1 := by
  unfold nodeM
  split
  · rename_i x hx
    exact h.h x (List.mem_of_find?_eq_some hx)
  · exact ⟨⟨by simp [MX], by simp⟩, ⟨by simp [MX], by simp⟩⟩
/-- The source that tells the nodes of a row. -/
def srcF (l : List NamedM) : AV := .fn (.func 45) [] [.pim [[encL l]] 0 0]
theorem s45 (l : List NamedM) (ref : Int) (hl : okL l) (ht : tinyL l) (H : Heap) : callL ft (srcF l) [int ref] H = some (.tup [.agg (nodeC (nodeM l ref).1), int (nodeM l ref).2], H) := by
  refine call_p (as' := [int ref, .pim [[encL l]] 0 0]) rfl rfl (by simp) ?_
  obtain ⟨t1, t2⟩ := tiny_node ht ref
  have hp : ∀ (H : Heap), cellsAt H (.pim [[encL l]] 0 0) 1 = some [encL l] := fun _ => rfl
  have k46' := fun K L Q => k46 (ref := ref) hl (K := K) (L := L) (Q := Q)
  unfold c45 r45
  simp only [int] at k46'
  simp only [↓vp, vq0, vq1, vq2, vq3, vr0, vr1, vr2, vr3, vr4, vr5, vr6, vr7, vr8, vr9, vr10, vr11, vr12, vr13, vr14, vr15, vr16, vr17, vr18, vr19, vr20, vr21, vr22, vr23, vr24, vr25, vr26, vr27, vr28, vr29, vr30, vr31, vr32, vr33, vr34, opS, fpS, okP, pack, nAl, allocA, shId, leaves, fillA, fillR, splice, Nat.reduceLT, Nat.reduceEqDiff, Nat.reduceLeDiff, Nat.reduceAdd, Nat.reduceSub, Nat.reduceMul, Int.reduceBEq, Int.reduceBNe, Int.reduceLT, Int.reduceLE, Int.reduceEq, reduceIte, reduceCtorEq, da, int, boolA, RetP_go, resT, resC, resN, retV1, retV2, retV3, retV0, frzFZ, takeM, Option.some.injEq, hp, k46', k47, t1, t2]
theorem k45 {l : List NamedM} {ref : Int} (hl : okL l) (ht : tinyL l) {K : Heap} {L : List Blk} {Q : AV → Heap → Prop} :
    KW ft (srcF l) [int ref] (hx K L) Q ↔ Q (.tup [.agg (nodeC (nodeM l ref).1), int (nodeM l ref).2]) (hx K L) := KW_of (s45 l ref hl ht _)
theorem s17 (l : List NamedM) (H : Heap) : callL ft (.fn (.func 17) [] []) [encL l] H = some (srcF l, H) := by
  refine call_p (as' := [encL l]) rfl rfl (by simp) ?_
  unfold c17 r17 srcF
  simp only [↓vp, vq0, vq1, vq2, vq3, vr0, vr1, vr2, vr3, vr4, vr5, vr6, vr7, vr8, vr9, vr10, vr11, vr12, vr13, vr14, vr15, vr16, vr17, vr18, vr19, vr20, vr21, vr22, vr23, vr24, vr25, vr26, vr27, vr28, vr29, vr30, vr31, vr32, vr33, vr34, opS, fpS, okP, pack, nAl, allocA, shId, leaves, fillA, fillR, splice, Nat.reduceLT, Nat.reduceEqDiff, Nat.reduceLeDiff, Nat.reduceAdd, Nat.reduceSub, Nat.reduceMul, Int.reduceBEq, Int.reduceBNe, Int.reduceLT, Int.reduceLE, Int.reduceEq, reduceIte, reduceCtorEq, da, int, boolA, RetP_go, resT, resC, resN, retV1, retV2, retV3, retV0, frzFZ, takeM, Option.some.injEq]
theorem k17 {l : List NamedM} {K : Heap} {L : List Blk} {Q : AV → Heap → Prop} : KW ft (.fn (.func 17) [] []) [encL l] (hx K L) Q ↔ Q (srcF l) (hx K L) := KW_of (s17 l _)

/-! ### the choices of the ways -/
/-- By a key. -/
def byKey (key : Bytes) : AV := .fn (.func 42) [] [.pim [[encB key]] 0 0]
def pathK (key : Bytes) (n : NodeM) : Int := if n.leaf then bsM n.items key else sideP n.kids key
theorem s42 (key : Bytes) (n : NodeM) (hn : okN n) (hl2 : n.items.length < 4000000000000000000) (hk : okB key) (H : Heap) : callL ft (byKey key) [.agg (nodeC n)] H = some (int (pathK key n), H) := by
  refine call_p (as' := [.agg (nodeC n), .pim [[encB key]] 0 0]) rfl rfl (by simp) ?_
  have hp : ∀ (H : Heap), cellsAt H (.pim [[encB key]] 0 0) 1 = some [encB key] := fun _ => rfl
  unfold c42 r42 pathK
  cases e : n.leaf with
  | true => simp only [↓vp, vq0, vq1, vq2, vq3, vr0, vr1, vr2, vr3, vr4, vr5, vr6, vr7, vr8, vr9, vr10, vr11, vr12, vr13, vr14, vr15, vr16, vr17, vr18, vr19, vr20, vr21, vr22, vr23, vr24, vr25, vr26, vr27, vr28, vr29, vr30, vr31, vr32, vr33, vr34, opS, fpS, okP, pack, nAl, allocA, shId, leaves, fillA, fillR, splice, Nat.reduceLT, Nat.reduceEqDiff, Nat.reduceLeDiff, Nat.reduceAdd, Nat.reduceSub, Nat.reduceMul, Int.reduceBEq, Int.reduceBNe, Int.reduceLT, Int.reduceLE, Int.reduceEq, reduceIte, reduceCtorEq, da, int, boolA, RetP_go, resT, resC, resN, retV1, retV2, retV3, retV0, frzFZ, takeM, Option.some.injEq, hp, e, k43, hn, hl2, hk]
  | false => simp only [↓vp, vq0, vq1, vq2, vq3, vr0, vr1, vr2, vr3, vr4, vr5, vr6, vr7, vr8, vr9, vr10, vr11, vr12, vr13, vr14, vr15, vr16, vr17, vr18, vr19, vr20, vr21, vr22, vr23, vr24, vr25, vr26, vr27, vr28, vr29, vr30, vr31, vr32, vr33, vr34, opS, fpS, okP, pack, nAl, allocA, shId, leaves, fillA, fillR, splice, Nat.reduceLT, Nat.reduceEqDiff, Nat.reduceLeDiff, Nat.reduceAdd, Nat.reduceSub, Nat.reduceMul, Int.reduceBEq, Int.reduceBNe, Int.reduceLT, Int.reduceLE, Int.reduceEq, reduceIte, reduceCtorEq, da, int, boolA, RetP_go, resT, resC, resN, retV1, retV2, retV3, retV0, frzFZ, takeM, Option.some.injEq, hp, e, k44, hn, hl2, hk]
theorem k42 {key : Bytes} {n : NodeM} (hn : okN n) (hl2 : n.items.length < 4000000000000000000) (hk : okB key) {K : Heap} {L : List Blk} {Q : AV → Heap → Prop} :
    KW ft (byKey key) [.agg (nodeC n)] (hx K L) Q ↔ Q (int (pathK key n)) (hx K L) := KW_of (s42 key n hn hl2 hk _)
/-- To an edge. -/
def toEdge (last : Bool) : AV := .fn (.func 51) [] [.pim [[boolA last]] 0 0]
def edgeK (last : Bool) (n : NodeM) : Int := if last then (if n.leaf then (if n.items.length = 0 then 0 else n.items.length - 1) else n.kids.length - 1) else 0
theorem s51 (last : Bool) (n : NodeM) (hn : okN n) (H : Heap) : callL ft (toEdge last) [.agg (nodeC n)] H = some (int (edgeK last n), H) := by
  refine call_p (as' := [.agg (nodeC n), .pim [[boolA last]] 0 0]) rfl rfl (by simp) ?_
  have hp : ∀ (H : Heap), cellsAt H (.pim [[boolA last]] 0 0) 1 = some [boolA last] := fun _ => rfl
  have h1 := hn.i.n
  have h2 := hn.k.n
  unfold MX at h1 h2
  have w1 : IntKind.i64.wrap ((n.items.length : Int) - 1) = (n.items.length : Int) - 1 := wrap_i64 (by omega)
  have w2 : IntKind.i64.wrap ((n.kids.length : Int) - 1) = (n.kids.length : Int) - 1 := wrap_i64 (by omega)
  unfold c51 r51 edgeK
  simp only [boolA] at hp
  cases last with
  | false => simp only [↓vp, vq0, vq1, vq2, vq3, vr0, vr1, vr2, vr3, vr4, vr5, vr6, vr7, vr8, vr9, vr10, vr11, vr12, vr13, vr14, vr15, vr16, vr17, vr18, vr19, vr20, vr21, vr22, vr23, vr24, vr25, vr26, vr27, vr28, vr29, vr30, vr31, vr32, vr33, vr34, opS, fpS, okP, pack, nAl, allocA, shId, leaves, fillA, fillR, splice, Nat.reduceLT, Nat.reduceEqDiff, Nat.reduceLeDiff, Nat.reduceAdd, Nat.reduceSub, Nat.reduceMul, Int.reduceBEq, Int.reduceBNe, Int.reduceLT, Int.reduceLE, Int.reduceEq, reduceIte, reduceCtorEq, da, int, boolA, RetP_go, resT, resC, resN, retV1, retV2, retV3, retV0, frzFZ, takeM, Option.some.injEq, hp]
  | true =>
    cases e : n.leaf with
    | true =>
      by_cases h0 : n.items.length = 0
      · have g : (((n.items.length : Int) - 1) < 0) = True := eq_true (by omega)
        simp only [↓vp, vq0, vq1, vq2, vq3, vr0, vr1, vr2, vr3, vr4, vr5, vr6, vr7, vr8, vr9, vr10, vr11, vr12, vr13, vr14, vr15, vr16, vr17, vr18, vr19, vr20, vr21, vr22, vr23, vr24, vr25, vr26, vr27, vr28, vr29, vr30, vr31, vr32, vr33, vr34, opS, fpS, okP, pack, nAl, allocA, shId, leaves, fillA, fillR, splice, Nat.reduceLT, Nat.reduceEqDiff, Nat.reduceLeDiff, Nat.reduceAdd, Nat.reduceSub, Nat.reduceMul, Int.reduceBEq, Int.reduceBNe, Int.reduceLT, Int.reduceLE, Int.reduceEq, reduceIte, reduceCtorEq, da, int, boolA, RetP_go, resT, resC, resN, retV1, retV2, retV3, retV0, frzFZ, takeM, Option.some.injEq, hp, e, w1, g, if_pos h0]
      · have g : (((n.items.length : Int) - 1) < 0) = False := eq_false (by omega)
        simp only [↓vp, vq0, vq1, vq2, vq3, vr0, vr1, vr2, vr3, vr4, vr5, vr6, vr7, vr8, vr9, vr10, vr11, vr12, vr13, vr14, vr15, vr16, vr17, vr18, vr19, vr20, vr21, vr22, vr23, vr24, vr25, vr26, vr27, vr28, vr29, vr30, vr31, vr32, vr33, vr34, opS, fpS, okP, pack, nAl, allocA, shId, leaves, fillA, fillR, splice, Nat.reduceLT, Nat.reduceEqDiff, Nat.reduceLeDiff, Nat.reduceAdd, Nat.reduceSub, Nat.reduceMul, Int.reduceBEq, Int.reduceBNe, Int.reduceLT, Int.reduceLE, Int.reduceEq, reduceIte, reduceCtorEq, da, int, boolA, RetP_go, resT, resC, resN, retV1, retV2, retV3, retV0, frzFZ, takeM, Option.some.injEq, hp, e, w1, g, if_neg h0]
    | false => simp only [↓vp, vq0, vq1, vq2, vq3, vr0, vr1, vr2, vr3, vr4, vr5, vr6, vr7, vr8, vr9, vr10, vr11, vr12, vr13, vr14, vr15, vr16, vr17, vr18, vr19, vr20, vr21, vr22, vr23, vr24, vr25, vr26, vr27, vr28, vr29, vr30, vr31, vr32, vr33, vr34, opS, fpS, okP, pack, nAl, allocA, shId, leaves, fillA, fillR, splice, Nat.reduceLT, Nat.reduceEqDiff, Nat.reduceLeDiff, Nat.reduceAdd, Nat.reduceSub, Nat.reduceMul, Int.reduceBEq, Int.reduceBNe, Int.reduceLT, Int.reduceLE, Int.reduceEq, reduceIte, reduceCtorEq, da, int, boolA, RetP_go, resT, resC, resN, retV1, retV2, retV3, retV0, frzFZ, takeM, Option.some.injEq, hp, e, w2]
theorem k51 {last : Bool} {n : NodeM} (hn : okN n) {K : Heap} {L : List Blk} {Q : AV → Heap → Prop} :
    KW ft (toEdge last) [.agg (nodeC n)] (hx K L) Q ↔ Q (int (edgeK last n)) (hx K L) := KW_of (s51 last n hn _)
end Go.VI

/- VI, part SG: down a tree. -/
set_option linter.unusedVariables false
set_option linter.unusedSimpArgs false
set_option maxRecDepth 100000
namespace Go.VI
attribute [local congr] AW_congr OW_congr DW_congr NW_congr VW_congr GW_congr PW_congr KW_congr ite_congr' GV_congr CV_congr

/-- Down from a node, with so many steps yet. -/
def downM (kf : NodeM → Int) (l : List NamedM) : Nat → Int → List StepM → List StepM × Int
  | 0, _, _ => ([], 130)
  | d + 1, ref, acc =>
    if (nodeM l ref).2 ≠ 0 then ([], (nodeM l ref).2)
    else if (nodeM l ref).1.leaf = false ∧ (nodeM l ref).1.kids.length = 0 then ([], 131)
    else if (nodeM l ref).1.leaf then (acc ++ [⟨ref, (nodeM l ref).1, kf (nodeM l ref).1⟩], 0)
    else match (nodeM l ref).1.kids[(kf (nodeM l ref).1).toNat]? with
      | some x => downM kf l d x.ref (acc ++ [⟨ref, (nodeM l ref).1, kf (nodeM l ref).1⟩])
      | none => ([], 130)
/-- What a choice must be. -/
structure Choice (kv : AV) (kf : NodeM → Int) : Prop where
  call : ∀ (n : NodeM), okN n → n.items.length ≤ 1000 → ∀ (K : Heap) (L : List Blk) (Q : AV → Heap → Prop), KW ft kv [.agg (nodeC n)] (hx K L) Q ↔ Q (int (kf n)) (hx K L)
  free : ∀ n, pureV ft kv [.agg (nodeC n)] = true
  rng : ∀ n, okN n → n.leaf = false → 0 < n.kids.length → ∃ j : Nat, kf n = j ∧ j < n.kids.length

theorem n_take (n : NodeM) (l : List AV) : (nodeC n ++ l).take 3 = nodeC n := rfl
theorem n_drop (n : NodeM) (a : AV) : (nodeC n ++ [a]).drop 4 = [] := rfl
theorem n_take4 (n : NodeM) (a : AV) : (nodeC n ++ [a]).take 4 = nodeC n ++ [a] := rfl
theorem n_drop3 (n : NodeM) (a : AV) : (nodeC n ++ [a]).drop 3 = [a] := rfl
theorem n_onea (n : NodeM) (v : Value) : oneAll (nodeC n ++ [AV.sc v]) = true := rfl
theorem zna (m : Nat) (H : Heap) (n : NodeM) (k : Int) : frz.frzL (m + 6) H (nodeC n ++ [AV.sc (.int .i64 k)]) = some (nodeC n ++ [AV.sc (.int .i64 k)], H) := rfl
theorem n_fold (r k : Int) (n : NodeM) : (AV.sc (.int .i64 r) :: (nodeC n ++ [AV.sc (.int .i64 k)])) = stepC ⟨r, n, k⟩ := rfl
theorem l41 {kv : AV} {kf : NodeM → Int} (hk : Choice kv kf) (l : List NamedM) (hl : okL l) (ht : tinyL l) (T : List StepM × Int) {Q : AExit → Env → Heap → Prop}
   (hex : ∀ f' K, T = ([], 130) → Q (.exit 0) (mkE 59 f') (hx K []))
   (hret : ∀ f' K L S, Rep (hx K L) 5 S (T.1.map stepC) → f' 6 = S → f' 7 = int T.2 → Q .ret (mkE 59 f') (hx K L)) :
   ∀ (d : Nat) (ref : Int) (acc : List StepM) (S : AV) (K : Heap) (f : Nat → AV), d + acc.length = 12 → T = downM kf l d ref acc → Rep K 5 S (acc.map stepC) → f 0 = srcF l → f 2 = kv → f 8 = S → f 9 = int ref →
    AW ft (.loop c41L0) (mkE 59 f) (hx K []) Q := by
  intro d
  have lS' : ∀ {acc : List StepM} {S : AV} {K : Heap}, Rep K 5 S (acc.map stepC) → ∀ H, lenV H 0 S = some (int acc.length, H) := fun {acc S K} hr H => by
    rcases hr with ⟨rfl, hr⟩ | ⟨id, rfl, hr⟩
    · have : acc = [] := by simpa using hr
      subst this
      rfl
    · rw [lenV_sl]; simp [int]
  induction d with
  | zero =>
    intro ref acc S K f hd hc hr h0 h2 h8 h9
    have lS := lS' hr
    simp only [int] at lS
    have g : ((acc.length : Int) < 12) = False := eq_false (by omega)
    rw [AW_loop]
    unfold c41L0
    simp only [↓vp, vq0, vq1, vq2, vq3, vr0, vr1, vr2, vr3, vr4, vr5, vr6, vr7, vr8, vr9, vr10, vr11, vr12, vr13, vr14, vr15, vr16, vr17, vr18, vr19, vr20, vr21, vr22, vr23, vr24, vr25, vr26, vr27, vr28, vr29, vr30, vr31, vr32, vr33, vr34, opS, fpS, okP, pack, nAl, allocA, shId, leaves, fillA, fillR, splice, Nat.reduceLT, Nat.reduceEqDiff, Nat.reduceLeDiff, Nat.reduceAdd, Nat.reduceSub, Nat.reduceMul, Int.reduceBEq, Int.reduceBNe, Int.reduceLT, Int.reduceLE, Int.reduceEq, reduceIte, reduceCtorEq, da, int, boolA, h8, lS, g]
    exact hex _ _ hc
  | succ d ih =>
    intro ref acc S K f hd hc hr h0 h2 h8 h9
    have o1 := ok_node hl ref
    obtain ⟨t1, t2⟩ := tiny_node ht ref
    rw [AW_loop]
    unfold c41L0
    have k45' := fun K L Q => k45 (ref := ref) hl ht (K := K) (L := L) (Q := Q)
    simp only [int] at k45'
    have kc := hk.call _ o1 t1
    have kp := hk.free (nodeM l ref).1
    have lS := lS' hr
    simp only [int] at lS
    have g : ((acc.length : Int) < 12) = True := eq_true (by omega)
    rw [downM] at hc
    generalize nodeM l ref = p at *
    obtain ⟨n, er⟩ := p
    simp only at o1 t1 t2 kc kp k45' hc
    cases e1 : (er != 0) with
    | true =>
      have e1' : er ≠ 0 := by simpa using e1
      rw [if_pos e1'] at hc
      simp only [↓vp, vq0, vq1, vq2, vq3, vr0, vr1, vr2, vr3, vr4, vr5, vr6, vr7, vr8, vr9, vr10, vr11, vr12, vr13, vr14, vr15, vr16, vr17, vr18, vr19, vr20, vr21, vr22, vr23, vr24, vr25, vr26, vr27, vr28, vr29, vr30, vr31, vr32, vr33, vr34, opS, fpS, okP, pack, nAl, allocA, shId, leaves, fillA, fillR, splice, Nat.reduceLT, Nat.reduceEqDiff, Nat.reduceLeDiff, Nat.reduceAdd, Nat.reduceSub, Nat.reduceMul, Int.reduceBEq, Int.reduceBNe, Int.reduceLT, Int.reduceLE, Int.reduceEq, reduceIte, reduceCtorEq, da, int, boolA, h0, h2, h8, h9, lS, g, k45', e1]
      refine hret _ _ _ (.sc (.slice none 0 0)) ?_ ?_ ?_
      · rw [hc]; exact .inl ⟨rfl, rfl⟩
      · simp only [↓vp, vq0, vq1, vq2, vq3, vr0, vr1, vr2, vr3, vr4, vr5, vr6, vr7, vr8, vr9, vr10, vr11, vr12, vr13, vr14, vr15, vr16, vr17, vr18, vr19, vr20, vr21, vr22, vr23, vr24, vr25, vr26, vr27, vr28, vr29, vr30, vr31, vr32, vr33, vr34, opS, fpS, okP, pack, nAl, allocA, shId, leaves, fillA, fillR, splice, Nat.reduceLT, Nat.reduceEqDiff, Nat.reduceLeDiff, Nat.reduceAdd, Nat.reduceSub, Nat.reduceMul, Int.reduceBEq, Int.reduceBNe, Int.reduceLT, Int.reduceLE, Int.reduceEq, reduceIte, reduceCtorEq, da, int, boolA]
      · simp only [↓vp, vq0, vq1, vq2, vq3, vr0, vr1, vr2, vr3, vr4, vr5, vr6, vr7, vr8, vr9, vr10, vr11, vr12, vr13, vr14, vr15, vr16, vr17, vr18, vr19, vr20, vr21, vr22, vr23, vr24, vr25, vr26, vr27, vr28, vr29, vr30, vr31, vr32, vr33, vr34, opS, fpS, okP, pack, nAl, allocA, shId, leaves, fillA, fillR, splice, Nat.reduceLT, Nat.reduceEqDiff, Nat.reduceLeDiff, Nat.reduceAdd, Nat.reduceSub, Nat.reduceMul, Int.reduceBEq, Int.reduceBNe, Int.reduceLT, Int.reduceLE, Int.reduceEq, reduceIte, reduceCtorEq, da, int, boolA, hc]
    | false =>
      have e1' : ¬ er ≠ 0 := by simpa using e1
      rw [if_neg e1'] at hc
      have cat : ∀ (x : StepM), ((acc ++ [x]).map stepC) = acc.map stepC ++ [stepC x] := fun x => by rw [List.map_append]; rfl
      have ln : (acc.map stepC).length = acc.length := by simp
      have hb : (acc.length + 1) * 72 ≤ 140737488355328 := by omega
      cases e2 : n.leaf with
      | true =>
        rw [if_neg (by simp [e2]), if_pos e2] at hc
        rcases hr with ⟨rfl, hr⟩ | ⟨id, rfl, hr⟩
        · simp only [↓vp, vq0, vq1, vq2, vq3, vr0, vr1, vr2, vr3, vr4, vr5, vr6, vr7, vr8, vr9, vr10, vr11, vr12, vr13, vr14, vr15, vr16, vr17, vr18, vr19, vr20, vr21, vr22, vr23, vr24, vr25, vr26, vr27, vr28, vr29, vr30, vr31, vr32, vr33, vr34, opS, fpS, okP, pack, nAl, allocA, shId, leaves, fillA, fillR, splice, Nat.reduceLT, Nat.reduceEqDiff, Nat.reduceLeDiff, Nat.reduceAdd, Nat.reduceSub, Nat.reduceMul, Int.reduceBEq, Int.reduceBNe, Int.reduceLT, Int.reduceLE, Int.reduceEq, reduceIte, reduceCtorEq, da, int, boolA, List.length_append, n_take, n_take4, n_drop, n_drop3, n_onea, zna, h0, h2, h8, h9, lS, g, k45', e1, e2, kc, kp]
          refine hret _ _ _ (.sl (K.next + 3) 0 1) (.inr ⟨K.next + 3, ?_, ?_⟩) ?_ ?_
          · rw [hc, cat, hr]; rfl
          · rw [hc, cat, hr]
            simp only [↓vp, vq0, vq1, vq2, vq3, vr0, vr1, vr2, vr3, vr4, vr5, vr6, vr7, vr8, vr9, vr10, vr11, vr12, vr13, vr14, vr15, vr16, vr17, vr18, vr19, vr20, vr21, vr22, vr23, vr24, vr25, vr26, vr27, vr28, vr29, vr30, vr31, vr32, vr33, vr34, opS, fpS, okP, pack, nAl, allocA, shId, leaves, fillA, fillR, splice, Nat.reduceLT, Nat.reduceEqDiff, Nat.reduceLeDiff, Nat.reduceAdd, Nat.reduceSub, Nat.reduceMul, Int.reduceBEq, Int.reduceBNe, Int.reduceLT, Int.reduceLE, Int.reduceEq, reduceIte, reduceCtorEq]
            rfl
          · simp only [↓vp, vq0, vq1, vq2, vq3, vr0, vr1, vr2, vr3, vr4, vr5, vr6, vr7, vr8, vr9, vr10, vr11, vr12, vr13, vr14, vr15, vr16, vr17, vr18, vr19, vr20, vr21, vr22, vr23, vr24, vr25, vr26, vr27, vr28, vr29, vr30, vr31, vr32, vr33, vr34, opS, fpS, okP, pack, nAl, allocA, shId, leaves, fillA, fillR, splice, Nat.reduceLT, Nat.reduceEqDiff, Nat.reduceLeDiff, Nat.reduceAdd, Nat.reduceSub, Nat.reduceMul, Int.reduceBEq, Int.reduceBNe, Int.reduceLT, Int.reduceLE, Int.reduceEq, reduceIte, reduceCtorEq, da, int, boolA]
          · simp only [↓vp, vq0, vq1, vq2, vq3, vr0, vr1, vr2, vr3, vr4, vr5, vr6, vr7, vr8, vr9, vr10, vr11, vr12, vr13, vr14, vr15, vr16, vr17, vr18, vr19, vr20, vr21, vr22, vr23, vr24, vr25, vr26, vr27, vr28, vr29, vr30, vr31, vr32, vr33, vr34, opS, fpS, okP, pack, nAl, allocA, shId, leaves, fillA, fillR, splice, Nat.reduceLT, Nat.reduceEqDiff, Nat.reduceLeDiff, Nat.reduceAdd, Nat.reduceSub, Nat.reduceMul, Int.reduceBEq, Int.reduceBNe, Int.reduceLT, Int.reduceLE, Int.reduceEq, reduceIte, reduceCtorEq, da, int, boolA, hc]
        · have lid := Heap.get_lt hr
          have oid := fun L => hx_get_old K L id lid
          have pid := fun L b => hx_set_old K L b id lid
          simp only [↓vp, vq0, vq1, vq2, vq3, vr0, vr1, vr2, vr3, vr4, vr5, vr6, vr7, vr8, vr9, vr10, vr11, vr12, vr13, vr14, vr15, vr16, vr17, vr18, vr19, vr20, vr21, vr22, vr23, vr24, vr25, vr26, vr27, vr28, vr29, vr30, vr31, vr32, vr33, vr34, opS, fpS, okP, pack, nAl, allocA, shId, leaves, fillA, fillR, splice, Nat.reduceLT, Nat.reduceEqDiff, Nat.reduceLeDiff, Nat.reduceAdd, Nat.reduceSub, Nat.reduceMul, Int.reduceBEq, Int.reduceBNe, Int.reduceLT, Int.reduceLE, Int.reduceEq, reduceIte, reduceCtorEq, da, int, boolA, List.length_append, n_take, n_take4, n_drop, n_drop3, n_onea, zna, h0, h2, h8, h9, lS, g, k45', e1, e2, kc, kp, oid, pid, hr, ln, hb, List.take_of_length_le (Nat.le_of_eq ln)]
          refine hret _ _ _ (.sl (K.next + 3) 0 (acc.length + 1)) (.inr ⟨K.next + 3, ?_, ?_⟩) ?_ ?_
          · rw [hc, cat, List.length_append, ln]; rfl
          · rw [hc, cat]
            simp only [↓vp, vq0, vq1, vq2, vq3, vr0, vr1, vr2, vr3, vr4, vr5, vr6, vr7, vr8, vr9, vr10, vr11, vr12, vr13, vr14, vr15, vr16, vr17, vr18, vr19, vr20, vr21, vr22, vr23, vr24, vr25, vr26, vr27, vr28, vr29, vr30, vr31, vr32, vr33, vr34, opS, fpS, okP, pack, nAl, allocA, shId, leaves, fillA, fillR, splice, Nat.reduceLT, Nat.reduceEqDiff, Nat.reduceLeDiff, Nat.reduceAdd, Nat.reduceSub, Nat.reduceMul, Int.reduceBEq, Int.reduceBNe, Int.reduceLT, Int.reduceLE, Int.reduceEq, reduceIte, reduceCtorEq]
            rfl
          · simp only [↓vp, vq0, vq1, vq2, vq3, vr0, vr1, vr2, vr3, vr4, vr5, vr6, vr7, vr8, vr9, vr10, vr11, vr12, vr13, vr14, vr15, vr16, vr17, vr18, vr19, vr20, vr21, vr22, vr23, vr24, vr25, vr26, vr27, vr28, vr29, vr30, vr31, vr32, vr33, vr34, opS, fpS, okP, pack, nAl, allocA, shId, leaves, fillA, fillR, splice, Nat.reduceLT, Nat.reduceEqDiff, Nat.reduceLeDiff, Nat.reduceAdd, Nat.reduceSub, Nat.reduceMul, Int.reduceBEq, Int.reduceBNe, Int.reduceLT, Int.reduceLE, Int.reduceEq, reduceIte, reduceCtorEq, da, int, boolA]
          · simp only [↓vp, vq0, vq1, vq2, vq3, vr0, vr1, vr2, vr3, vr4, vr5, vr6, vr7, vr8, vr9, vr10, vr11, vr12, vr13, vr14, vr15, vr16, vr17, vr18, vr19, vr20, vr21, vr22, vr23, vr24, vr25, vr26, vr27, vr28, vr29, vr30, vr31, vr32, vr33, vr34, opS, fpS, okP, pack, nAl, allocA, shId, leaves, fillA, fillR, splice, Nat.reduceLT, Nat.reduceEqDiff, Nat.reduceLeDiff, Nat.reduceAdd, Nat.reduceSub, Nat.reduceMul, Int.reduceBEq, Int.reduceBNe, Int.reduceLT, Int.reduceLE, Int.reduceEq, reduceIte, reduceCtorEq, da, int, boolA, hc]
      | false =>
        cases e3 : ((n.kids.length : Int) == 0) with
        | true =>
          have e3' : n.kids.length = 0 := by simpa using e3
          rw [if_pos ⟨e2, e3'⟩] at hc
          simp only [↓vp, vq0, vq1, vq2, vq3, vr0, vr1, vr2, vr3, vr4, vr5, vr6, vr7, vr8, vr9, vr10, vr11, vr12, vr13, vr14, vr15, vr16, vr17, vr18, vr19, vr20, vr21, vr22, vr23, vr24, vr25, vr26, vr27, vr28, vr29, vr30, vr31, vr32, vr33, vr34, opS, fpS, okP, pack, nAl, allocA, shId, leaves, fillA, fillR, splice, Nat.reduceLT, Nat.reduceEqDiff, Nat.reduceLeDiff, Nat.reduceAdd, Nat.reduceSub, Nat.reduceMul, Int.reduceBEq, Int.reduceBNe, Int.reduceLT, Int.reduceLE, Int.reduceEq, reduceIte, reduceCtorEq, da, int, boolA, h0, h2, h8, h9, lS, g, k45', e1, e2, e3]
          refine hret _ _ _ (.sc (.slice none 0 0)) ?_ ?_ ?_
          · rw [hc]; exact .inl ⟨rfl, rfl⟩
          · simp only [↓vp, vq0, vq1, vq2, vq3, vr0, vr1, vr2, vr3, vr4, vr5, vr6, vr7, vr8, vr9, vr10, vr11, vr12, vr13, vr14, vr15, vr16, vr17, vr18, vr19, vr20, vr21, vr22, vr23, vr24, vr25, vr26, vr27, vr28, vr29, vr30, vr31, vr32, vr33, vr34, opS, fpS, okP, pack, nAl, allocA, shId, leaves, fillA, fillR, splice, Nat.reduceLT, Nat.reduceEqDiff, Nat.reduceLeDiff, Nat.reduceAdd, Nat.reduceSub, Nat.reduceMul, Int.reduceBEq, Int.reduceBNe, Int.reduceLT, Int.reduceLE, Int.reduceEq, reduceIte, reduceCtorEq, da, int, boolA]
          · simp only [↓vp, vq0, vq1, vq2, vq3, vr0, vr1, vr2, vr3, vr4, vr5, vr6, vr7, vr8, vr9, vr10, vr11, vr12, vr13, vr14, vr15, vr16, vr17, vr18, vr19, vr20, vr21, vr22, vr23, vr24, vr25, vr26, vr27, vr28, vr29, vr30, vr31, vr32, vr33, vr34, opS, fpS, okP, pack, nAl, allocA, shId, leaves, fillA, fillR, splice, Nat.reduceLT, Nat.reduceEqDiff, Nat.reduceLeDiff, Nat.reduceAdd, Nat.reduceSub, Nat.reduceMul, Int.reduceBEq, Int.reduceBNe, Int.reduceLT, Int.reduceLE, Int.reduceEq, reduceIte, reduceCtorEq, da, int, boolA, hc]
        | false =>
          have e3' : n.kids.length ≠ 0 := by simpa using e3
          rw [if_neg (by simp [e3']), if_neg (by simp [e2])] at hc
          obtain ⟨j, hj, hjl⟩ := hk.rng n o1 e2 (by omega)
          rw [hj, Int.toNat_natCast, List.getElem?_eq_getElem hjl] at hc
          simp only at hc
          rcases hr with ⟨rfl, hr⟩ | ⟨id, rfl, hr⟩
          · simp only [↓vp, vq0, vq1, vq2, vq3, vr0, vr1, vr2, vr3, vr4, vr5, vr6, vr7, vr8, vr9, vr10, vr11, vr12, vr13, vr14, vr15, vr16, vr17, vr18, vr19, vr20, vr21, vr22, vr23, vr24, vr25, vr26, vr27, vr28, vr29, vr30, vr31, vr32, vr33, vr34, opS, fpS, okP, pack, nAl, allocA, shId, leaves, fillA, fillR, splice, Nat.reduceLT, Nat.reduceEqDiff, Nat.reduceLeDiff, Nat.reduceAdd, Nat.reduceSub, Nat.reduceMul, Int.reduceBEq, Int.reduceBNe, Int.reduceLT, Int.reduceLE, Int.reduceEq, reduceIte, reduceCtorEq, da, int, boolA, List.length_append, n_take, n_take4, n_drop, n_drop3, n_onea, zna, h0, h2, h8, h9, lS, g, k45', e1, e2, e3, kc, kp, hj, atK hjl, cK hjl]
            rw [← hx_nil (hx K _)]
            refine ih _ _ (.sl (K.next + 3) 0 1) _ _ (by simp; omega) hc (.inr ⟨K.next + 3, ?_, ?_⟩) ?_ ?_ ?_ ?_
            · rw [cat, hr]; rfl
            · rw [cat, hr]
              simp only [↓vp, vq0, vq1, vq2, vq3, vr0, vr1, vr2, vr3, vr4, vr5, vr6, vr7, vr8, vr9, vr10, vr11, vr12, vr13, vr14, vr15, vr16, vr17, vr18, vr19, vr20, vr21, vr22, vr23, vr24, vr25, vr26, vr27, vr28, vr29, vr30, vr31, vr32, vr33, vr34, opS, fpS, okP, pack, nAl, allocA, shId, leaves, fillA, fillR, splice, Nat.reduceLT, Nat.reduceEqDiff, Nat.reduceLeDiff, Nat.reduceAdd, Nat.reduceSub, Nat.reduceMul, Int.reduceBEq, Int.reduceBNe, Int.reduceLT, Int.reduceLE, Int.reduceEq, reduceIte, reduceCtorEq]
              rfl
            all_goals simp only [↓vp, vq0, vq1, vq2, vq3, vr0, vr1, vr2, vr3, vr4, vr5, vr6, vr7, vr8, vr9, vr10, vr11, vr12, vr13, vr14, vr15, vr16, vr17, vr18, vr19, vr20, vr21, vr22, vr23, vr24, vr25, vr26, vr27, vr28, vr29, vr30, vr31, vr32, vr33, vr34, opS, fpS, okP, pack, nAl, allocA, shId, leaves, fillA, fillR, splice, Nat.reduceLT, Nat.reduceEqDiff, Nat.reduceLeDiff, Nat.reduceAdd, Nat.reduceSub, Nat.reduceMul, Int.reduceBEq, Int.reduceBNe, Int.reduceLT, Int.reduceLE, Int.reduceEq, reduceIte, reduceCtorEq, da, int, boolA, h0, h2]
          · have lid := Heap.get_lt hr
            have oid := fun L => hx_get_old K L id lid
            have pid := fun L b => hx_set_old K L b id lid
            simp only [↓vp, vq0, vq1, vq2, vq3, vr0, vr1, vr2, vr3, vr4, vr5, vr6, vr7, vr8, vr9, vr10, vr11, vr12, vr13, vr14, vr15, vr16, vr17, vr18, vr19, vr20, vr21, vr22, vr23, vr24, vr25, vr26, vr27, vr28, vr29, vr30, vr31, vr32, vr33, vr34, opS, fpS, okP, pack, nAl, allocA, shId, leaves, fillA, fillR, splice, Nat.reduceLT, Nat.reduceEqDiff, Nat.reduceLeDiff, Nat.reduceAdd, Nat.reduceSub, Nat.reduceMul, Int.reduceBEq, Int.reduceBNe, Int.reduceLT, Int.reduceLE, Int.reduceEq, reduceIte, reduceCtorEq, da, int, boolA, List.length_append, n_take, n_take4, n_drop, n_drop3, n_onea, zna, h0, h2, h8, h9, lS, g, k45', e1, e2, e3, kc, kp, oid, pid, hr, ln, hb, List.take_of_length_le (Nat.le_of_eq ln), hj, atK hjl, cK hjl]
            rw [← hx_nil (hx _ _)]
            refine ih _ _ (.sl (K.next + 3) 0 (acc.length + 1)) _ _ (by simp; omega) hc (.inr ⟨K.next + 3, ?_, ?_⟩) ?_ ?_ ?_ ?_
            · rw [cat, List.length_append, ln]; rfl
            · rw [cat]
              simp only [↓vp, vq0, vq1, vq2, vq3, vr0, vr1, vr2, vr3, vr4, vr5, vr6, vr7, vr8, vr9, vr10, vr11, vr12, vr13, vr14, vr15, vr16, vr17, vr18, vr19, vr20, vr21, vr22, vr23, vr24, vr25, vr26, vr27, vr28, vr29, vr30, vr31, vr32, vr33, vr34, opS, fpS, okP, pack, nAl, allocA, shId, leaves, fillA, fillR, splice, Nat.reduceLT, Nat.reduceEqDiff, Nat.reduceLeDiff, Nat.reduceAdd, Nat.reduceSub, Nat.reduceMul, Int.reduceBEq, Int.reduceBNe, Int.reduceLT, Int.reduceLE, Int.reduceEq, reduceIte, reduceCtorEq]
              rfl
            all_goals simp only [↓vp, vq0, vq1, vq2, vq3, vr0, vr1, vr2, vr3, vr4, vr5, vr6, vr7, vr8, vr9, vr10, vr11, vr12, vr13, vr14, vr15, vr16, vr17, vr18, vr19, vr20, vr21, vr22, vr23, vr24, vr25, vr26, vr27, vr28, vr29, vr30, vr31, vr32, vr33, vr34, opS, fpS, okP, pack, nAl, allocA, shId, leaves, fillA, fillR, splice, Nat.reduceLT, Nat.reduceEqDiff, Nat.reduceLeDiff, Nat.reduceAdd, Nat.reduceSub, Nat.reduceMul, Int.reduceBEq, Int.reduceBNe, Int.reduceLT, Int.reduceLE, Int.reduceEq, reduceIte, reduceCtorEq, da, int, boolA, h0, h2]
/-- A whole way: none where an error is told. -/
def wayM (kf : NodeM → Int) (l : List NamedM) (root : Int) : List StepM × Int := downM kf l 12 root []
theorem frz_rep {K : Heap} {L : List Blk} {sz : Nat} {S : AV} {rows : List (List AV)} (h : Rep (hx K L) sz S rows) (n : Nat) : ∃ K', frz (n + 1) (hx K L) S = some (.lst rows, K') := by
  rcases h with ⟨rfl, rfl⟩ | ⟨id, rfl, h⟩
  · exact ⟨_, rfl⟩
  · refine ⟨(hx K L).set id (.row true sz rows), ?_⟩
    rw [frz_sl, h]
    simp
theorem s41 {kv : AV} {kf : NodeM → Int} (hk : Choice kv kf) (l : List NamedM) (hl : okL l) (ht : tinyL l) (root : Int) {args : List AV} {H H1 : Heap} (hfz : frzCells H args = some ([srcF l, int root, kv], H1)) :
    callL ft (.fn (.func 41) [] []) args H = some (.tup [encS (wayM kf l root).1, int (wayM kf l root).2], H1) := by
  refine call_p (as' := [srcF l, int root, kv]) rfl (by simpa using hfz) (by simp) ?_
  unfold c41 r41
  have hn : isnilA 3 (srcF l) = some false := rfl
  simp only [↓vp, vq0, vq1, vq2, vq3, vr0, vr1, vr2, vr3, vr4, vr5, vr6, vr7, vr8, vr9, vr10, vr11, vr12, vr13, vr14, vr15, vr16, vr17, vr18, vr19, vr20, vr21, vr22, vr23, vr24, vr25, vr26, vr27, vr28, vr29, vr30, vr31, vr32, vr33, vr34, opS, fpS, okP, pack, nAl, allocA, shId, leaves, fillA, fillR, splice, Nat.reduceLT, Nat.reduceEqDiff, Nat.reduceLeDiff, Nat.reduceAdd, Nat.reduceSub, Nat.reduceMul, Int.reduceBEq, Int.reduceBNe, Int.reduceLT, Int.reduceLE, Int.reduceEq, reduceIte, reduceCtorEq, da, int, boolA, hn]
  refine l41 hk l hl ht (wayM kf l root) (fun f' K hT => ?_) (fun f' K L S hr h6 h7 => ?_) 12 root [] (.sc (.slice none 0 0)) _ _ rfl rfl (.inl ⟨rfl, rfl⟩) ?_ ?_ ?_ ?_
  · unfold c41R1
    simp only [↓vp, vq0, vq1, vq2, vq3, vr0, vr1, vr2, vr3, vr4, vr5, vr6, vr7, vr8, vr9, vr10, vr11, vr12, vr13, vr14, vr15, vr16, vr17, vr18, vr19, vr20, vr21, vr22, vr23, vr24, vr25, vr26, vr27, vr28, vr29, vr30, vr31, vr32, vr33, vr34, opS, fpS, okP, pack, nAl, allocA, shId, leaves, fillA, fillR, splice, Nat.reduceLT, Nat.reduceEqDiff, Nat.reduceLeDiff, Nat.reduceAdd, Nat.reduceSub, Nat.reduceMul, Int.reduceBEq, Int.reduceBNe, Int.reduceLT, Int.reduceLE, Int.reduceEq, reduceIte, reduceCtorEq, da, int, boolA, RetP_go, resT, resC, resN, retV1, retV2, retV3, retV0, frzFZ, takeM, Option.some.injEq, hT]
    rfl
  · obtain ⟨K', hK'⟩ := frz_rep hr 21
    simp only [↓vp, vq0, vq1, vq2, vq3, vr0, vr1, vr2, vr3, vr4, vr5, vr6, vr7, vr8, vr9, vr10, vr11, vr12, vr13, vr14, vr15, vr16, vr17, vr18, vr19, vr20, vr21, vr22, vr23, vr24, vr25, vr26, vr27, vr28, vr29, vr30, vr31, vr32, vr33, vr34, opS, fpS, okP, pack, nAl, allocA, shId, leaves, fillA, fillR, splice, Nat.reduceLT, Nat.reduceEqDiff, Nat.reduceLeDiff, Nat.reduceAdd, Nat.reduceSub, Nat.reduceMul, Int.reduceBEq, Int.reduceBNe, Int.reduceLT, Int.reduceLE, Int.reduceEq, reduceIte, reduceCtorEq, da, int, boolA, RetP_go, resT, resC, resN, retV1, retV2, retV3, retV0, frzFZ, takeM, Option.some.injEq, h6, h7, hK']
    rfl
  all_goals first | rfl | (simp only [↓vp, vq0, vq1, vq2, vq3, vr0, vr1, vr2, vr3, vr4, vr5, vr6, vr7, vr8, vr9, vr10, vr11, vr12, vr13, vr14, vr15, vr16, vr17, vr18, vr19, vr20, vr21, vr22, vr23, vr24, vr25, vr26, vr27, vr28, vr29, vr30, vr31, vr32, vr33, vr34, opS, fpS, okP, pack, nAl, allocA, shId, leaves, fillA, fillR, splice, Nat.reduceLT, Nat.reduceEqDiff, Nat.reduceLeDiff, Nat.reduceAdd, Nat.reduceSub, Nat.reduceMul, Int.reduceBEq, Int.reduceBNe, Int.reduceLT, Int.reduceLE, Int.reduceEq, reduceIte, reduceCtorEq, da, int, boolA]; done)
end Go.VI

/- VI, part SH: the program's ways; Get; the document's way. -/
set_option linter.unusedVariables false
set_option linter.unusedSimpArgs false
set_option maxRecDepth 100000
namespace Go.VI
attribute [local congr] AW_congr OW_congr DW_congr NW_congr VW_congr GW_congr PW_congr KW_congr ite_congr' GV_congr CV_congr

theorem sideD_le (l : List KidM) (key : Bytes) : ∀ k, sideD l key k ≤ k
  | 0 => Nat.le_refl _
  | k + 1 => by
    rw [sideD]
    split
    · exact Nat.le_succ_of_le (sideD_le l key k)
    · exact Nat.le_refl _
theorem choice_key {key : Bytes} (hk : okB key) : Choice (byKey key) (pathK key) where
  call := fun n hn h1 K L Q => k42 hn (by omega) hk
  free := fun n => rfl
  rng := fun n hn hl h0 => ⟨sideP n.kids key, by rw [pathK, hl]; rfl, by
    have := sideD_le n.kids key (n.kids.length - 1)
    unfold sideP
    omega⟩
theorem choice_edge (last : Bool) : Choice (toEdge last) (edgeK last) where
  call := fun n hn h1 K L Q => k51 hn
  free := fun n => rfl
  rng := fun n hn hl h0 => by
    cases last with
    | false => exact ⟨0, rfl, h0⟩
    | true => exact ⟨n.kids.length - 1, by rw [edgeK, hl]; simp; omega, by omega⟩
theorem s16 (l : List NamedM) (hl : okL l) (ht : tinyL l) (root : Int) (key : Bytes) (hk : okB key) (H : Heap) :
    callL ft (.fn (.func 16) [] []) [srcF l, int root, encB key] H = some (.tup [encS (wayM (pathK key) l root).1, int (wayM (pathK key) l root).2], H) := by
  have q : ∀ (Q : AV → Heap → Prop), KW ft (.fn (.func 41) [] []) [srcF l, int root, .fn (.func 42) [] [.ptr 0 0 0]] (hx Heap.empty [.box false [encB key]]) Q ↔ Q (.tup [encS (wayM (pathK key) l root).1, int (wayM (pathK key) l root).2]) (hx Heap.empty [.box true [encB key]]) :=
    fun Q => KW_of (s41 (choice_key hk) l hl ht root rfl)
  simp only [int] at q
  refine call_p (as' := [srcF l, int root, encB key]) rfl rfl (by simp) ?_
  unfold c16 r16
  simp only [↓vp, vq0, vq1, vq2, vq3, vr0, vr1, vr2, vr3, vr4, vr5, vr6, vr7, vr8, vr9, vr10, vr11, vr12, vr13, vr14, vr15, vr16, vr17, vr18, vr19, vr20, vr21, vr22, vr23, vr24, vr25, vr26, vr27, vr28, vr29, vr30, vr31, vr32, vr33, vr34, opS, fpS, okP, pack, nAl, allocA, shId, leaves, fillA, fillR, splice, Nat.reduceLT, Nat.reduceEqDiff, Nat.reduceLeDiff, Nat.reduceAdd, Nat.reduceSub, Nat.reduceMul, Int.reduceBEq, Int.reduceBNe, Int.reduceLT, Int.reduceLE, Int.reduceEq, reduceIte, reduceCtorEq, da, int, boolA, RetP_go, resT, resC, resN, retV1, retV2, retV3, retV0, frzFZ, takeM, Option.some.injEq, q]
theorem s19 (l : List NamedM) (hl : okL l) (ht : tinyL l) (root : Int) (last : Bool) (H : Heap) :
    callL ft (.fn (.func 19) [] []) [srcF l, int root, boolA last] H = some (.tup [encS (wayM (edgeK last) l root).1, int (wayM (edgeK last) l root).2], H) := by
  have q : ∀ (Q : AV → Heap → Prop), KW ft (.fn (.func 41) [] []) [srcF l, int root, .fn (.func 51) [] [.ptr 0 0 0]] (hx Heap.empty [.box false [boolA last]]) Q ↔ Q (.tup [encS (wayM (edgeK last) l root).1, int (wayM (edgeK last) l root).2]) (hx Heap.empty [.box true [boolA last]]) :=
    fun Q => KW_of (s41 (choice_edge last) l hl ht root rfl)
  simp only [int, boolA] at q
  refine call_p (as' := [srcF l, int root, boolA last]) rfl rfl (by simp) ?_
  unfold c19 r19
  simp only [↓vp, vq0, vq1, vq2, vq3, vr0, vr1, vr2, vr3, vr4, vr5, vr6, vr7, vr8, vr9, vr10, vr11, vr12, vr13, vr14, vr15, vr16, vr17, vr18, vr19, vr20, vr21, vr22, vr23, vr24, vr25, vr26, vr27, vr28, vr29, vr30, vr31, vr32, vr33, vr34, opS, fpS, okP, pack, nAl, allocA, shId, leaves, fillA, fillR, splice, Nat.reduceLT, Nat.reduceEqDiff, Nat.reduceLeDiff, Nat.reduceAdd, Nat.reduceSub, Nat.reduceMul, Int.reduceBEq, Int.reduceBNe, Int.reduceLT, Int.reduceLE, Int.reduceEq, reduceIte, reduceCtorEq, da, int, boolA, RetP_go, resT, resC, resN, retV1, retV2, retV3, retV0, frzFZ, takeM, Option.some.injEq, q]
end Go.VI

/- VI, part SI: the document's way. -/
set_option linter.unusedVariables false
set_option linter.unusedSimpArgs false
set_option maxRecDepth 100000
namespace Go.VI
attribute [local congr] AW_congr OW_congr DW_congr NW_congr VW_congr GW_congr PW_congr KW_congr ite_congr' GV_congr CV_congr

/-- The document's choice: 0 by a key, 1 first, 2 last. -/
def refK (which : Int) (key : Bytes) (n : NodeM) : Int :=
  if which = 0 then (if n.leaf then (findM n.items key).1 else sideM n.kids key)
  else if which = 2 ∧ 0 < manyN n then manyN n - 1 else 0
def refM (kf : NodeM → Int) (l : List NamedM) : Nat → Int → List StepM × Int
  | 0, _ => ([], 130)
  | d + 1, ref =>
    if (nodeM l ref).2 ≠ 0 then ([], (nodeM l ref).2)
    else if (nodeM l ref).1.leaf = false ∧ (nodeM l ref).1.kids.length = 0 then ([], 131)
    else if (nodeM l ref).1.leaf then ([⟨ref, (nodeM l ref).1, kf (nodeM l ref).1⟩], 0)
    else match (nodeM l ref).1.kids[(kf (nodeM l ref).1).toNat]? with
      | some x => if (refM kf l d x.ref).2 ≠ 0 then ([], (refM kf l d x.ref).2) else (⟨ref, (nodeM l ref).1, kf (nodeM l ref).1⟩ :: (refM kf l d x.ref).1, 0)
      | none => ([], 130)
theorem refM_len (kf : NodeM → Int) (l : List NamedM) : ∀ d ref, (refM kf l d ref).1.length ≤ d
  | 0, ref => by simp [refM]
  | d + 1, ref => by
    rw [refM]
    repeat' split
    all_goals simp
    exact refM_len kf l d _
theorem sideF_lt (key : Bytes) (m : Nat) : ∀ (l : List KidM) (i c : Nat), c < m → i + l.length ≤ m → sideF key i c l < m
  | [], i, c, hc, _ => hc
  | x :: l, i, c, hc, hi => by
    rw [sideF]
    simp only [List.length_cons] at hi
    refine sideF_lt key m l (i + 1) _ ?_ (by omega)
    split <;> omega
theorem sideM_lt (l : List KidM) (key : Bytes) (h : 0 < l.length) : sideM l key < l.length :=
  sideF_lt key l.length (l.drop 1) 1 0 h (by simp; omega)
theorem k48 {n : NodeM} {K : Heap} {L : List Blk} {Q : AV → Heap → Prop} : KW ft (.fn (.func 48) [] []) [.agg (nodeC n)] (hx K L) Q ↔ Q (int (manyN n)) (hx K L) := KW_of (s48 n _)
theorem k49 {n : NodeM} {key : Bytes} (hn : okN n) (hk : okB key) {K : Heap} {L : List Blk} {Q : AV → Heap → Prop} :
    KW ft (.fn (.func 49) [] []) [.agg (nodeC n), encB key] (hx K L) Q ↔ Q (.tup [int (findM n.items key).1, boolA (findM n.items key).2]) (hx K L) := KW_of (s49 n key hn hk _)
theorem k50 {n : NodeM} {key : Bytes} (hn : okN n) (hk : okB key) {K : Heap} {L : List Blk} {Q : AV → Heap → Prop} :
    KW ft (.fn (.func 50) [] []) [.agg (nodeC n), encB key] (hx K L) Q ↔ Q (int (sideM n.kids key)) (hx K L) := KW_of (s50 n key hn hk _)

theorem rowsS (H : Heap) (l : List StepM) : rowsOf H (encS l) = some (l.map stepC) := rfl
theorem szS : ∀ (l : List StepM), allSz 5 (l.map stepC) = true
  | [] => rfl
  | x :: l => by rw [List.map_cons, allSz_cons, szS l]; rfl
theorem s18a (l : List NamedM) (hl : okL l) (ht : tinyL l) (key : Bytes) (hk : okB key) : ∀ (d : Nat), d ≤ 12 → ∀ (ref : Int) (H : Heap),
    callL ft (.fn (.func 18) [] []) [encL l, int ref, int 0, encB key, int d] H = some (.tup [encS (refM (refK 0 key) l d ref).1, int (refM (refK 0 key) l d ref).2], H) := by
  intro d
  induction d with
  | zero =>
    intro _ ref H
    refine call_p (as' := [encL l, int ref, int 0, encB key, int (0 : Nat)]) rfl rfl (by simp) ?_
    unfold c18 r18
    simp only [↓vp, vq0, vq1, vq2, vq3, vr0, vr1, vr2, vr3, vr4, vr5, vr6, vr7, vr8, vr9, vr10, vr11, vr12, vr13, vr14, vr15, vr16, vr17, vr18, vr19, vr20, vr21, vr22, vr23, vr24, vr25, vr26, vr27, vr28, vr29, vr30, vr31, vr32, vr33, vr34, opS, fpS, okP, pack, nAl, allocA, shId, leaves, fillA, fillR, splice, Nat.reduceLT, Nat.reduceEqDiff, Nat.reduceLeDiff, Nat.reduceAdd, Nat.reduceSub, Nat.reduceMul, Int.reduceBEq, Int.reduceBNe, Int.reduceLT, Int.reduceLE, Int.reduceEq, reduceIte, reduceCtorEq, da, int, boolA, RetP_go, resT, resC, resN, retV1, retV2, retV3, retV0, frzFZ, takeM, Option.some.injEq, Int.ofNat_zero, Int.natCast_zero, Int.cast_ofNat_Int, refM]
    rfl
  | succ d ih =>
    intro hd ref H
    have o1 := ok_node hl ref
    have k46' := fun K L Q => k46 (ref := ref) hl (K := K) (L := L) (Q := Q)
    have ihk : ∀ (x : Int) (K : Heap) (L : List Blk) (Q : AV → Heap → Prop), KW ft (.fn (.func 18) [] []) [encL l, int x, int 0, encB key, int d] (hx K L) Q ↔ Q (.tup [encS (refM (refK 0 key) l d x).1, int (refM (refK 0 key) l d x).2]) (hx K L) := fun x K L Q => KW_of (ih (by omega) x _)
    have rl := refM_len (refK 0 key) l d
    simp only [int] at k46' ihk
    refine call_p (as' := [encL l, int ref, int 0, encB key, int (d + 1 : Nat)]) rfl rfl (by simp) ?_
    have g0 : (((d + 1 : Nat) : Int) == 0) = false := by simp; omega
    have w1 := wrap_pred (show d < 9223372036854775807 by omega)
    rw [refM]
    generalize nodeM l ref = p at *
    obtain ⟨n, er⟩ := p
    simp only at o1 k46' ⊢
    unfold c18 r18
    cases e1 : (er != 0) with
    | true =>
      have e1' : er ≠ 0 := by simpa using e1
      rw [if_pos e1']
      simp only [↓vp, vq0, vq1, vq2, vq3, vr0, vr1, vr2, vr3, vr4, vr5, vr6, vr7, vr8, vr9, vr10, vr11, vr12, vr13, vr14, vr15, vr16, vr17, vr18, vr19, vr20, vr21, vr22, vr23, vr24, vr25, vr26, vr27, vr28, vr29, vr30, vr31, vr32, vr33, vr34, opS, fpS, okP, pack, nAl, allocA, shId, leaves, fillA, fillR, splice, Nat.reduceLT, Nat.reduceEqDiff, Nat.reduceLeDiff, Nat.reduceAdd, Nat.reduceSub, Nat.reduceMul, Int.reduceBEq, Int.reduceBNe, Int.reduceLT, Int.reduceLE, Int.reduceEq, reduceIte, reduceCtorEq, da, int, boolA, RetP_go, resT, resC, resN, retV1, retV2, retV3, retV0, frzFZ, takeM, Option.some.injEq, g0, k46', e1]
      rfl
    | false =>
      have e1' : ¬ er ≠ 0 := by simpa using e1
      rw [if_neg e1']
      cases e2 : n.leaf with
      | true =>
        rw [if_neg (by simp), if_pos rfl]
        have hrk : refK 0 key n = (findM n.items key).1 := by simp [refK, e2]
        simp only [↓vp, vq0, vq1, vq2, vq3, vr0, vr1, vr2, vr3, vr4, vr5, vr6, vr7, vr8, vr9, vr10, vr11, vr12, vr13, vr14, vr15, vr16, vr17, vr18, vr19, vr20, vr21, vr22, vr23, vr24, vr25, vr26, vr27, vr28, vr29, vr30, vr31, vr32, vr33, vr34, opS, fpS, okP, pack, nAl, allocA, shId, leaves, fillA, fillR, splice, Nat.reduceLT, Nat.reduceEqDiff, Nat.reduceLeDiff, Nat.reduceAdd, Nat.reduceSub, Nat.reduceMul, Int.reduceBEq, Int.reduceBNe, Int.reduceLT, Int.reduceLE, Int.reduceEq, reduceIte, reduceCtorEq, da, int, boolA, RetP_go, resT, resC, resN, retV1, retV2, retV3, retV0, frzFZ, takeM, Option.some.injEq, List.length_append, n_take, n_take4, n_drop, n_drop3, n_onea, zna, g0, k46', e1, e2, k48, k49, o1, hk, hrk]
        rfl
      | false =>
        have hm : manyN n = (n.kids.length : Int) := by simp [manyN, e2]
        have hrk : refK 0 key n = sideM n.kids key := by simp [refK, e2]
        cases e3 : ((n.kids.length : Int) == 0) with
        | true =>
          have e3' : n.kids.length = 0 := by simpa using e3
          rw [if_pos ⟨rfl, e3'⟩]
          simp only [↓vp, vq0, vq1, vq2, vq3, vr0, vr1, vr2, vr3, vr4, vr5, vr6, vr7, vr8, vr9, vr10, vr11, vr12, vr13, vr14, vr15, vr16, vr17, vr18, vr19, vr20, vr21, vr22, vr23, vr24, vr25, vr26, vr27, vr28, vr29, vr30, vr31, vr32, vr33, vr34, opS, fpS, okP, pack, nAl, allocA, shId, leaves, fillA, fillR, splice, Nat.reduceLT, Nat.reduceEqDiff, Nat.reduceLeDiff, Nat.reduceAdd, Nat.reduceSub, Nat.reduceMul, Int.reduceBEq, Int.reduceBNe, Int.reduceLT, Int.reduceLE, Int.reduceEq, reduceIte, reduceCtorEq, da, int, boolA, RetP_go, resT, resC, resN, retV1, retV2, retV3, retV0, frzFZ, takeM, Option.some.injEq, g0, k46', e1, e2, k48, hm, e3]
          rfl
        | false =>
          have e3' : n.kids.length ≠ 0 := by simpa using e3
          rw [if_neg (by simp [e3']), if_neg (by simp)]
          have hjl : sideM n.kids key < n.kids.length := sideM_lt n.kids key (by omega)
          rw [hrk, Int.toNat_natCast, List.getElem?_eq_getElem hjl]
          have rl' := rl n.kids[sideM n.kids key].ref
          simp only
          cases e4 : ((refM (refK 0 key) l d n.kids[sideM n.kids key].ref).2 != 0) with
          | true =>
            have e4' : (refM (refK 0 key) l d n.kids[sideM n.kids key].ref).2 ≠ 0 := by simpa using e4
            rw [if_pos e4']
            simp only [↓vp, vq0, vq1, vq2, vq3, vr0, vr1, vr2, vr3, vr4, vr5, vr6, vr7, vr8, vr9, vr10, vr11, vr12, vr13, vr14, vr15, vr16, vr17, vr18, vr19, vr20, vr21, vr22, vr23, vr24, vr25, vr26, vr27, vr28, vr29, vr30, vr31, vr32, vr33, vr34, opS, fpS, okP, pack, nAl, allocA, shId, leaves, fillA, fillR, splice, Nat.reduceLT, Nat.reduceEqDiff, Nat.reduceLeDiff, Nat.reduceAdd, Nat.reduceSub, Nat.reduceMul, Int.reduceBEq, Int.reduceBNe, Int.reduceLT, Int.reduceLE, Int.reduceEq, reduceIte, reduceCtorEq, da, int, boolA, RetP_go, resT, resC, resN, retV1, retV2, retV3, retV0, frzFZ, takeM, Option.some.injEq, List.length_append, n_take, n_take4, n_drop, n_drop3, n_onea, zna, g0, k46', e1, e2, k48, k50, o1, hk, hm, e3, atK hjl, cK hjl, ihk, w1, e4]
            rfl
          | false =>
            have e4' : ¬ (refM (refK 0 key) l d n.kids[sideM n.kids key].ref).2 ≠ 0 := by simpa using e4
            rw [if_neg e4']
            have hb : (1 + (refM (refK 0 key) l d n.kids[sideM n.kids key].ref).1.length) * 72 ≤ 140737488355328 := by omega
            simp only [↓vp, vq0, vq1, vq2, vq3, vr0, vr1, vr2, vr3, vr4, vr5, vr6, vr7, vr8, vr9, vr10, vr11, vr12, vr13, vr14, vr15, vr16, vr17, vr18, vr19, vr20, vr21, vr22, vr23, vr24, vr25, vr26, vr27, vr28, vr29, vr30, vr31, vr32, vr33, vr34, opS, fpS, okP, pack, nAl, allocA, shId, leaves, fillA, fillR, splice, Nat.reduceLT, Nat.reduceEqDiff, Nat.reduceLeDiff, Nat.reduceAdd, Nat.reduceSub, Nat.reduceMul, Int.reduceBEq, Int.reduceBNe, Int.reduceLT, Int.reduceLE, Int.reduceEq, reduceIte, reduceCtorEq, da, int, boolA, RetP_go, resT, resC, resN, retV1, retV2, retV3, retV0, frzFZ, takeM, Option.some.injEq, List.length_append, n_take, n_take4, n_drop, n_drop3, n_onea, zna, g0, k46', e1, e2, k48, k50, o1, hk, hm, e3, atK hjl, cK hjl, ihk, w1, e4, rowsS, szS, hb]
            rw [if_pos (by omega), List.take_of_length_le (by simp; omega)]
            rfl
theorem s18b (l : List NamedM) (hl : okL l) (ht : tinyL l) (key : Bytes) (hk : okB key) : ∀ (d : Nat), d ≤ 12 → ∀ (ref : Int) (H : Heap),
    callL ft (.fn (.func 18) [] []) [encL l, int ref, int 1, encB key, int d] H = some (.tup [encS (refM (refK 1 key) l d ref).1, int (refM (refK 1 key) l d ref).2], H) := by
  intro d
  induction d with
  | zero =>
    intro _ ref H
    refine call_p (as' := [encL l, int ref, int 1, encB key, int (0 : Nat)]) rfl rfl (by simp) ?_
    unfold c18 r18
    simp only [↓vp, vq0, vq1, vq2, vq3, vr0, vr1, vr2, vr3, vr4, vr5, vr6, vr7, vr8, vr9, vr10, vr11, vr12, vr13, vr14, vr15, vr16, vr17, vr18, vr19, vr20, vr21, vr22, vr23, vr24, vr25, vr26, vr27, vr28, vr29, vr30, vr31, vr32, vr33, vr34, opS, fpS, okP, pack, nAl, allocA, shId, leaves, fillA, fillR, splice, Nat.reduceLT, Nat.reduceEqDiff, Nat.reduceLeDiff, Nat.reduceAdd, Nat.reduceSub, Nat.reduceMul, Int.reduceBEq, Int.reduceBNe, Int.reduceLT, Int.reduceLE, Int.reduceEq, reduceIte, reduceCtorEq, da, int, boolA, RetP_go, resT, resC, resN, retV1, retV2, retV3, retV0, frzFZ, takeM, Option.some.injEq, Int.ofNat_zero, Int.natCast_zero, Int.cast_ofNat_Int, refM]
    rfl
  | succ d ih =>
    intro hd ref H
    have o1 := ok_node hl ref
    have k46' := fun K L Q => k46 (ref := ref) hl (K := K) (L := L) (Q := Q)
    have ihk : ∀ (x : Int) (K : Heap) (L : List Blk) (Q : AV → Heap → Prop), KW ft (.fn (.func 18) [] []) [encL l, int x, int 1, encB key, int d] (hx K L) Q ↔ Q (.tup [encS (refM (refK 1 key) l d x).1, int (refM (refK 1 key) l d x).2]) (hx K L) := fun x K L Q => KW_of (ih (by omega) x _)
    have rl := refM_len (refK 1 key) l d
    simp only [int] at k46' ihk
    refine call_p (as' := [encL l, int ref, int 1, encB key, int (d + 1 : Nat)]) rfl rfl (by simp) ?_
    have g0 : (((d + 1 : Nat) : Int) == 0) = false := by simp; omega
    have w1 := wrap_pred (show d < 9223372036854775807 by omega)
    rw [refM]
    generalize nodeM l ref = p at *
    obtain ⟨n, er⟩ := p
    simp only at o1 k46' ⊢
    unfold c18 r18
    cases e1 : (er != 0) with
    | true =>
      have e1' : er ≠ 0 := by simpa using e1
      rw [if_pos e1']
      simp only [↓vp, vq0, vq1, vq2, vq3, vr0, vr1, vr2, vr3, vr4, vr5, vr6, vr7, vr8, vr9, vr10, vr11, vr12, vr13, vr14, vr15, vr16, vr17, vr18, vr19, vr20, vr21, vr22, vr23, vr24, vr25, vr26, vr27, vr28, vr29, vr30, vr31, vr32, vr33, vr34, opS, fpS, okP, pack, nAl, allocA, shId, leaves, fillA, fillR, splice, Nat.reduceLT, Nat.reduceEqDiff, Nat.reduceLeDiff, Nat.reduceAdd, Nat.reduceSub, Nat.reduceMul, Int.reduceBEq, Int.reduceBNe, Int.reduceLT, Int.reduceLE, Int.reduceEq, reduceIte, reduceCtorEq, da, int, boolA, RetP_go, resT, resC, resN, retV1, retV2, retV3, retV0, frzFZ, takeM, Option.some.injEq, g0, k46', e1]
      rfl
    | false =>
      have e1' : ¬ er ≠ 0 := by simpa using e1
      rw [if_neg e1']
      cases e2 : n.leaf with
      | true =>
        rw [if_neg (by simp), if_pos rfl]
        have hrk : refK 1 key n = 0 := by simp [refK]
        simp only [↓vp, vq0, vq1, vq2, vq3, vr0, vr1, vr2, vr3, vr4, vr5, vr6, vr7, vr8, vr9, vr10, vr11, vr12, vr13, vr14, vr15, vr16, vr17, vr18, vr19, vr20, vr21, vr22, vr23, vr24, vr25, vr26, vr27, vr28, vr29, vr30, vr31, vr32, vr33, vr34, opS, fpS, okP, pack, nAl, allocA, shId, leaves, fillA, fillR, splice, Nat.reduceLT, Nat.reduceEqDiff, Nat.reduceLeDiff, Nat.reduceAdd, Nat.reduceSub, Nat.reduceMul, Int.reduceBEq, Int.reduceBNe, Int.reduceLT, Int.reduceLE, Int.reduceEq, reduceIte, reduceCtorEq, da, int, boolA, RetP_go, resT, resC, resN, retV1, retV2, retV3, retV0, frzFZ, takeM, Option.some.injEq, List.length_append, n_take, n_take4, n_drop, n_drop3, n_onea, zna, g0, k46', e1, e2, k48, k49, o1, hk, hrk]
        rfl
      | false =>
        have hm : manyN n = (n.kids.length : Int) := by simp [manyN, e2]
        have hrk : refK 1 key n = 0 := by simp [refK]
        cases e3 : ((n.kids.length : Int) == 0) with
        | true =>
          have e3' : n.kids.length = 0 := by simpa using e3
          rw [if_pos ⟨rfl, e3'⟩]
          simp only [↓vp, vq0, vq1, vq2, vq3, vr0, vr1, vr2, vr3, vr4, vr5, vr6, vr7, vr8, vr9, vr10, vr11, vr12, vr13, vr14, vr15, vr16, vr17, vr18, vr19, vr20, vr21, vr22, vr23, vr24, vr25, vr26, vr27, vr28, vr29, vr30, vr31, vr32, vr33, vr34, opS, fpS, okP, pack, nAl, allocA, shId, leaves, fillA, fillR, splice, Nat.reduceLT, Nat.reduceEqDiff, Nat.reduceLeDiff, Nat.reduceAdd, Nat.reduceSub, Nat.reduceMul, Int.reduceBEq, Int.reduceBNe, Int.reduceLT, Int.reduceLE, Int.reduceEq, reduceIte, reduceCtorEq, da, int, boolA, RetP_go, resT, resC, resN, retV1, retV2, retV3, retV0, frzFZ, takeM, Option.some.injEq, g0, k46', e1, e2, k48, hm, e3]
          rfl
        | false =>
          have e3' : n.kids.length ≠ 0 := by simpa using e3
          rw [if_neg (by simp [e3']), if_neg (by simp)]
          have hjl : 0 < n.kids.length := by omega
          have at0 : ∀ H, iaddrA H none 2 (encK n.kids) 0 = some (.pim (n.kids.map kidC) 0 0) := fun H => atK (i := 0) hjl
          rw [hrk, show (0 : Int).toNat = 0 from rfl, List.getElem?_eq_getElem hjl]
          have rl' := rl n.kids[0].ref
          simp only
          cases e4 : ((refM (refK 1 key) l d n.kids[0].ref).2 != 0) with
          | true =>
            have e4' : (refM (refK 1 key) l d n.kids[0].ref).2 ≠ 0 := by simpa using e4
            rw [if_pos e4']
            simp only [↓vp, vq0, vq1, vq2, vq3, vr0, vr1, vr2, vr3, vr4, vr5, vr6, vr7, vr8, vr9, vr10, vr11, vr12, vr13, vr14, vr15, vr16, vr17, vr18, vr19, vr20, vr21, vr22, vr23, vr24, vr25, vr26, vr27, vr28, vr29, vr30, vr31, vr32, vr33, vr34, opS, fpS, okP, pack, nAl, allocA, shId, leaves, fillA, fillR, splice, Nat.reduceLT, Nat.reduceEqDiff, Nat.reduceLeDiff, Nat.reduceAdd, Nat.reduceSub, Nat.reduceMul, Int.reduceBEq, Int.reduceBNe, Int.reduceLT, Int.reduceLE, Int.reduceEq, reduceIte, reduceCtorEq, da, int, boolA, RetP_go, resT, resC, resN, retV1, retV2, retV3, retV0, frzFZ, takeM, Option.some.injEq, List.length_append, n_take, n_take4, n_drop, n_drop3, n_onea, zna, g0, k46', e1, e2, k48, k50, o1, hk, hm, e3, at0, cK hjl, ihk, w1, e4]
            rfl
          | false =>
            have e4' : ¬ (refM (refK 1 key) l d n.kids[0].ref).2 ≠ 0 := by simpa using e4
            rw [if_neg e4']
            have hb : (1 + (refM (refK 1 key) l d n.kids[0].ref).1.length) * 72 ≤ 140737488355328 := by omega
            simp only [↓vp, vq0, vq1, vq2, vq3, vr0, vr1, vr2, vr3, vr4, vr5, vr6, vr7, vr8, vr9, vr10, vr11, vr12, vr13, vr14, vr15, vr16, vr17, vr18, vr19, vr20, vr21, vr22, vr23, vr24, vr25, vr26, vr27, vr28, vr29, vr30, vr31, vr32, vr33, vr34, opS, fpS, okP, pack, nAl, allocA, shId, leaves, fillA, fillR, splice, Nat.reduceLT, Nat.reduceEqDiff, Nat.reduceLeDiff, Nat.reduceAdd, Nat.reduceSub, Nat.reduceMul, Int.reduceBEq, Int.reduceBNe, Int.reduceLT, Int.reduceLE, Int.reduceEq, reduceIte, reduceCtorEq, da, int, boolA, RetP_go, resT, resC, resN, retV1, retV2, retV3, retV0, frzFZ, takeM, Option.some.injEq, List.length_append, n_take, n_take4, n_drop, n_drop3, n_onea, zna, g0, k46', e1, e2, k48, k50, o1, hk, hm, e3, at0, cK hjl, ihk, w1, e4, rowsS, szS, hb]
            rw [if_pos (by omega), List.take_of_length_le (by simp; omega)]
            rfl
theorem s18c (l : List NamedM) (hl : okL l) (ht : tinyL l) (key : Bytes) (hk : okB key) : ∀ (d : Nat), d ≤ 12 → ∀ (ref : Int) (H : Heap),
    callL ft (.fn (.func 18) [] []) [encL l, int ref, int 2, encB key, int d] H = some (.tup [encS (refM (refK 2 key) l d ref).1, int (refM (refK 2 key) l d ref).2], H) := by
  intro d
  induction d with
  | zero =>
    intro _ ref H
    refine call_p (as' := [encL l, int ref, int 2, encB key, int (0 : Nat)]) rfl rfl (by simp) ?_
    unfold c18 r18
    simp only [↓vp, vq0, vq1, vq2, vq3, vr0, vr1, vr2, vr3, vr4, vr5, vr6, vr7, vr8, vr9, vr10, vr11, vr12, vr13, vr14, vr15, vr16, vr17, vr18, vr19, vr20, vr21, vr22, vr23, vr24, vr25, vr26, vr27, vr28, vr29, vr30, vr31, vr32, vr33, vr34, opS, fpS, okP, pack, nAl, allocA, shId, leaves, fillA, fillR, splice, Nat.reduceLT, Nat.reduceEqDiff, Nat.reduceLeDiff, Nat.reduceAdd, Nat.reduceSub, Nat.reduceMul, Int.reduceBEq, Int.reduceBNe, Int.reduceLT, Int.reduceLE, Int.reduceEq, reduceIte, reduceCtorEq, da, int, boolA, RetP_go, resT, resC, resN, retV1, retV2, retV3, retV0, frzFZ, takeM, Option.some.injEq, Int.ofNat_zero, Int.natCast_zero, Int.cast_ofNat_Int, refM]
    rfl
  | succ d ih =>
    intro hd ref H
    have o1 := ok_node hl ref
    have k46' := fun K L Q => k46 (ref := ref) hl (K := K) (L := L) (Q := Q)
    have ihk : ∀ (x : Int) (K : Heap) (L : List Blk) (Q : AV → Heap → Prop), KW ft (.fn (.func 18) [] []) [encL l, int x, int 2, encB key, int d] (hx K L) Q ↔ Q (.tup [encS (refM (refK 2 key) l d x).1, int (refM (refK 2 key) l d x).2]) (hx K L) := fun x K L Q => KW_of (ih (by omega) x _)
    have rl := refM_len (refK 2 key) l d
    simp only [int] at k46' ihk
    refine call_p (as' := [encL l, int ref, int 2, encB key, int (d + 1 : Nat)]) rfl rfl (by simp) ?_
    have g0 : (((d + 1 : Nat) : Int) == 0) = false := by simp; omega
    have w1 := wrap_pred (show d < 9223372036854775807 by omega)
    rw [refM]
    generalize nodeM l ref = p at *
    obtain ⟨n, er⟩ := p
    simp only at o1 k46' ⊢
    unfold c18 r18
    cases e1 : (er != 0) with
    | true =>
      have e1' : er ≠ 0 := by simpa using e1
      rw [if_pos e1']
      simp only [↓vp, vq0, vq1, vq2, vq3, vr0, vr1, vr2, vr3, vr4, vr5, vr6, vr7, vr8, vr9, vr10, vr11, vr12, vr13, vr14, vr15, vr16, vr17, vr18, vr19, vr20, vr21, vr22, vr23, vr24, vr25, vr26, vr27, vr28, vr29, vr30, vr31, vr32, vr33, vr34, opS, fpS, okP, pack, nAl, allocA, shId, leaves, fillA, fillR, splice, Nat.reduceLT, Nat.reduceEqDiff, Nat.reduceLeDiff, Nat.reduceAdd, Nat.reduceSub, Nat.reduceMul, Int.reduceBEq, Int.reduceBNe, Int.reduceLT, Int.reduceLE, Int.reduceEq, reduceIte, reduceCtorEq, da, int, boolA, RetP_go, resT, resC, resN, retV1, retV2, retV3, retV0, frzFZ, takeM, Option.some.injEq, g0, k46', e1]
      rfl
    | false =>
      have e1' : ¬ er ≠ 0 := by simpa using e1
      rw [if_neg e1']
      cases e2 : n.leaf with
      | true =>
        rw [if_neg (by simp), if_pos rfl]
        have hm : manyN n = (n.items.length : Int) := by simp [manyN, e2]
        have hi := o1.i.n
        unfold MX at hi
        by_cases hz : 0 < n.items.length
        rotate_left
        · have hrk : refK 2 key n = 0 := by rw [refK, if_neg (by decide), if_neg (by rw [hm]; omega)]
          have g2 : ((0 : Int) < n.items.length) = False := eq_false (by omega)
          simp only [↓vp, vq0, vq1, vq2, vq3, vr0, vr1, vr2, vr3, vr4, vr5, vr6, vr7, vr8, vr9, vr10, vr11, vr12, vr13, vr14, vr15, vr16, vr17, vr18, vr19, vr20, vr21, vr22, vr23, vr24, vr25, vr26, vr27, vr28, vr29, vr30, vr31, vr32, vr33, vr34, opS, fpS, okP, pack, nAl, allocA, shId, leaves, fillA, fillR, splice, Nat.reduceLT, Nat.reduceEqDiff, Nat.reduceLeDiff, Nat.reduceAdd, Nat.reduceSub, Nat.reduceMul, Int.reduceBEq, Int.reduceBNe, Int.reduceLT, Int.reduceLE, Int.reduceEq, reduceIte, reduceCtorEq, da, int, boolA, RetP_go, resT, resC, resN, retV1, retV2, retV3, retV0, frzFZ, takeM, Option.some.injEq, List.length_append, n_take, n_take4, n_drop, n_drop3, n_onea, zna, g0, k46', e1, e2, k48, o1, hk, hrk, hm, g2]
          rfl
        have hrk : refK 2 key n = (n.items.length : Int) - 1 := by rw [refK, if_neg (by decide), if_pos (by rw [hm]; omega), hm]
        have g2 : ((0 : Int) < n.items.length) = True := eq_true (by omega)
        have w2 : IntKind.i64.wrap ((n.items.length : Int) - 1) = (n.items.length : Int) - 1 := wrap_i64 (by omega)
        simp only [↓vp, vq0, vq1, vq2, vq3, vr0, vr1, vr2, vr3, vr4, vr5, vr6, vr7, vr8, vr9, vr10, vr11, vr12, vr13, vr14, vr15, vr16, vr17, vr18, vr19, vr20, vr21, vr22, vr23, vr24, vr25, vr26, vr27, vr28, vr29, vr30, vr31, vr32, vr33, vr34, opS, fpS, okP, pack, nAl, allocA, shId, leaves, fillA, fillR, splice, Nat.reduceLT, Nat.reduceEqDiff, Nat.reduceLeDiff, Nat.reduceAdd, Nat.reduceSub, Nat.reduceMul, Int.reduceBEq, Int.reduceBNe, Int.reduceLT, Int.reduceLE, Int.reduceEq, reduceIte, reduceCtorEq, da, int, boolA, RetP_go, resT, resC, resN, retV1, retV2, retV3, retV0, frzFZ, takeM, Option.some.injEq, List.length_append, n_take, n_take4, n_drop, n_drop3, n_onea, zna, g0, k46', e1, e2, k48, k49, o1, hk, hrk, hm, g2, w2]
        rfl
      | false =>
        have hm : manyN n = (n.kids.length : Int) := by simp [manyN, e2]
        have hki := o1.k.n
        unfold MX at hki
        cases e3 : ((n.kids.length : Int) == 0) with
        | true =>
          have e3' : n.kids.length = 0 := by simpa using e3
          rw [if_pos ⟨rfl, e3'⟩]
          simp only [↓vp, vq0, vq1, vq2, vq3, vr0, vr1, vr2, vr3, vr4, vr5, vr6, vr7, vr8, vr9, vr10, vr11, vr12, vr13, vr14, vr15, vr16, vr17, vr18, vr19, vr20, vr21, vr22, vr23, vr24, vr25, vr26, vr27, vr28, vr29, vr30, vr31, vr32, vr33, vr34, opS, fpS, okP, pack, nAl, allocA, shId, leaves, fillA, fillR, splice, Nat.reduceLT, Nat.reduceEqDiff, Nat.reduceLeDiff, Nat.reduceAdd, Nat.reduceSub, Nat.reduceMul, Int.reduceBEq, Int.reduceBNe, Int.reduceLT, Int.reduceLE, Int.reduceEq, reduceIte, reduceCtorEq, da, int, boolA, RetP_go, resT, resC, resN, retV1, retV2, retV3, retV0, frzFZ, takeM, Option.some.injEq, g0, k46', e1, e2, k48, hm, e3]
          rfl
        | false =>
          have e3' : n.kids.length ≠ 0 := by simpa using e3
          rw [if_neg (by simp [e3']), if_neg (by simp)]
          have hjl : n.kids.length - 1 < n.kids.length := by omega
          have hrk : refK 2 key n = ((n.kids.length - 1 : Nat) : Int) := by rw [refK, if_neg (by decide), if_pos (by rw [hm]; omega), hm]; omega
          have g2 : ((0 : Int) < n.kids.length) = True := eq_true (by omega)
          have w2 : IntKind.i64.wrap ((n.kids.length : Int) - 1) = ((n.kids.length - 1 : Nat) : Int) := by rw [wrap_i64 (by omega)]; omega
          rw [hrk, Int.toNat_natCast, List.getElem?_eq_getElem hjl]
          have rl' := rl n.kids[n.kids.length - 1].ref
          simp only
          cases e4 : ((refM (refK 2 key) l d n.kids[n.kids.length - 1].ref).2 != 0) with
          | true =>
            have e4' : (refM (refK 2 key) l d n.kids[n.kids.length - 1].ref).2 ≠ 0 := by simpa using e4
            rw [if_pos e4']
            simp only [↓vp, vq0, vq1, vq2, vq3, vr0, vr1, vr2, vr3, vr4, vr5, vr6, vr7, vr8, vr9, vr10, vr11, vr12, vr13, vr14, vr15, vr16, vr17, vr18, vr19, vr20, vr21, vr22, vr23, vr24, vr25, vr26, vr27, vr28, vr29, vr30, vr31, vr32, vr33, vr34, opS, fpS, okP, pack, nAl, allocA, shId, leaves, fillA, fillR, splice, Nat.reduceLT, Nat.reduceEqDiff, Nat.reduceLeDiff, Nat.reduceAdd, Nat.reduceSub, Nat.reduceMul, Int.reduceBEq, Int.reduceBNe, Int.reduceLT, Int.reduceLE, Int.reduceEq, reduceIte, reduceCtorEq, da, int, boolA, RetP_go, resT, resC, resN, retV1, retV2, retV3, retV0, frzFZ, takeM, Option.some.injEq, List.length_append, n_take, n_take4, n_drop, n_drop3, n_onea, zna, g0, k46', e1, e2, k48, k50, o1, hk, hm, e3, atK hjl, cK hjl, ihk, w1, e4, g2, w2]
            rfl
          | false =>
            have e4' : ¬ (refM (refK 2 key) l d n.kids[n.kids.length - 1].ref).2 ≠ 0 := by simpa using e4
            rw [if_neg e4']
            have hb : (1 + (refM (refK 2 key) l d n.kids[n.kids.length - 1].ref).1.length) * 72 ≤ 140737488355328 := by omega
            simp only [↓vp, vq0, vq1, vq2, vq3, vr0, vr1, vr2, vr3, vr4, vr5, vr6, vr7, vr8, vr9, vr10, vr11, vr12, vr13, vr14, vr15, vr16, vr17, vr18, vr19, vr20, vr21, vr22, vr23, vr24, vr25, vr26, vr27, vr28, vr29, vr30, vr31, vr32, vr33, vr34, opS, fpS, okP, pack, nAl, allocA, shId, leaves, fillA, fillR, splice, Nat.reduceLT, Nat.reduceEqDiff, Nat.reduceLeDiff, Nat.reduceAdd, Nat.reduceSub, Nat.reduceMul, Int.reduceBEq, Int.reduceBNe, Int.reduceLT, Int.reduceLE, Int.reduceEq, reduceIte, reduceCtorEq, da, int, boolA, RetP_go, resT, resC, resN, retV1, retV2, retV3, retV0, frzFZ, takeM, Option.some.injEq, List.length_append, n_take, n_take4, n_drop, n_drop3, n_onea, zna, g0, k46', e1, e2, k48, k50, o1, hk, hm, e3, atK hjl, cK hjl, ihk, w1, e4, g2, w2, rowsS, szS, hb]
            rw [if_pos (by omega), List.take_of_length_le (by simp; omega)]
            rfl
end Go.VI

/- VI, part SJ: steps alike; rising keys. -/
set_option linter.unusedVariables false
set_option linter.unusedSimpArgs false
set_option maxRecDepth 100000
namespace Go.VI
attribute [local congr] AW_congr OW_congr DW_congr NW_congr VW_congr GW_congr PW_congr KW_congr ite_congr' GV_congr CV_congr

def okS (l : List StepM) : Prop := ∀ x ∈ l, okN x.n ∧ x.n.items.length ≤ 1000 ∧ x.n.kids.length ≤ 1000
def sameS (x y : StepM) : Bool := x.ref == y.ref && x.k == y.k && sameN x.n y.n
def sameSs : List StepM → List StepM → Bool
  | x :: a, y :: b => sameS x y && sameSs a b
  | _, _ => true
def stepsM (a b : List StepM) : Bool := a.length == b.length && sameSs a b
theorem l20 (a b : List StepM) (ha : okS a) (hb : okS b) (hl : a.length = b.length) (hi : a.length ≤ 12) {Q : AExit → Env → Heap → Prop}
   (hex : ∀ f' K, sameSs a b = true → Q (.exit 0) (mkE 56 f') (hx K []))
   (hret : ∀ f' K L, sameSs a b = false → f' 4 = boolA false → Q .ret (mkE 56 f') (hx K L)) :
   ∀ (d i : Nat) (f : Nat → AV) (K : Heap), i + d = a.length → sameSs a b = sameSs (a.drop i) (b.drop i) → f 0 = encS a → f 1 = encS b → f 12 = int a.length → f 13 = int i →
    AW ft (.loop c20L0) (mkE 56 f) (hx K []) Q := by
  intro d
  induction d with
  | zero =>
    intro i f K hd hc h0 h1 h12 h13
    have g : ((i : Int) < a.length) = False := eq_false (by omega)
    rw [AW_loop]
    unfold c20L0
    rw [List.drop_eq_nil_of_le (by omega)] at hc
    simp only [↓vp, vq0, vq1, vq2, vq3, vr0, vr1, vr2, vr3, vr4, vr5, vr6, vr7, vr8, vr9, vr10, vr11, vr12, vr13, vr14, vr15, vr16, vr17, vr18, vr19, vr20, vr21, vr22, vr23, vr24, vr25, vr26, vr27, vr28, vr29, vr30, vr31, vr32, vr33, vr34, opS, fpS, okP, pack, nAl, allocA, shId, leaves, fillA, fillR, splice, Nat.reduceLT, Nat.reduceEqDiff, Nat.reduceLeDiff, Nat.reduceAdd, Nat.reduceSub, Nat.reduceMul, Int.reduceBEq, Int.reduceBNe, Int.reduceLT, Int.reduceLE, Int.reduceEq, reduceIte, reduceCtorEq, da, int, boolA, h12, h13, g]
    exact hex _ _ (by rw [hc]; rfl)
  | succ d ih =>
    intro i f K hd hc h0 h1 h12 h13
    have g : ((i : Int) < a.length) = True := eq_true (by omega)
    have gi : i < a.length := by omega
    have gj : i < b.length := by omega
    obtain ⟨o1, t1, t1'⟩ := ha _ (List.getElem_mem gi)
    obtain ⟨o2, t2, t2'⟩ := hb _ (List.getElem_mem gj)
    have kp : pureV ft (.fn (.func 53) [] []) [.agg (nodeC a[i].n)] = true := rfl
    have kq : pureV ft (.fn (.func 52) [] []) [.agg (nodeC a[i].n), .agg (nodeC b[i].n)] = true := rfl
    rw [AW_loop]
    unfold c20L0
    rw [List.drop_eq_getElem_cons gi, List.drop_eq_getElem_cons gj, sameSs] at hc
    have w1 := wrap_succ (show i < 9223372036854775807 by omega)
    cases e1 : a[i].ref == b[i].ref with
    | false =>
      have e1' : (a[i].ref != b[i].ref) = true := by rw [bne, e1]; rfl
      simp only [↓vp, vq0, vq1, vq2, vq3, vr0, vr1, vr2, vr3, vr4, vr5, vr6, vr7, vr8, vr9, vr10, vr11, vr12, vr13, vr14, vr15, vr16, vr17, vr18, vr19, vr20, vr21, vr22, vr23, vr24, vr25, vr26, vr27, vr28, vr29, vr30, vr31, vr32, vr33, vr34, opS, fpS, okP, pack, nAl, allocA, shId, leaves, fillA, fillR, splice, Nat.reduceLT, Nat.reduceEqDiff, Nat.reduceLeDiff, Nat.reduceAdd, Nat.reduceSub, Nat.reduceMul, Int.reduceBEq, Int.reduceBNe, Int.reduceLT, Int.reduceLE, Int.reduceEq, reduceIte, reduceCtorEq, da, int, boolA, h0, h1, h12, h13, g, atS gi, cS gi, atS gj, cS gj, e1']
      refine hret _ _ _ (by rw [hc, sameS, e1, Bool.false_and, Bool.false_and, Bool.false_and]) ?_
      simp only [↓vp, vq0, vq1, vq2, vq3, vr0, vr1, vr2, vr3, vr4, vr5, vr6, vr7, vr8, vr9, vr10, vr11, vr12, vr13, vr14, vr15, vr16, vr17, vr18, vr19, vr20, vr21, vr22, vr23, vr24, vr25, vr26, vr27, vr28, vr29, vr30, vr31, vr32, vr33, vr34, opS, fpS, okP, pack, nAl, allocA, shId, leaves, fillA, fillR, splice, Nat.reduceLT, Nat.reduceEqDiff, Nat.reduceLeDiff, Nat.reduceAdd, Nat.reduceSub, Nat.reduceMul, Int.reduceBEq, Int.reduceBNe, Int.reduceLT, Int.reduceLE, Int.reduceEq, reduceIte, reduceCtorEq, da, int, boolA]
    | true =>
      have e1' : (a[i].ref != b[i].ref) = false := by rw [bne, e1]; rfl
      cases e2 : a[i].k == b[i].k with
      | false =>
        have e2' : (a[i].k != b[i].k) = true := by rw [bne, e2]; rfl
        simp only [↓vp, vq0, vq1, vq2, vq3, vr0, vr1, vr2, vr3, vr4, vr5, vr6, vr7, vr8, vr9, vr10, vr11, vr12, vr13, vr14, vr15, vr16, vr17, vr18, vr19, vr20, vr21, vr22, vr23, vr24, vr25, vr26, vr27, vr28, vr29, vr30, vr31, vr32, vr33, vr34, opS, fpS, okP, pack, nAl, allocA, shId, leaves, fillA, fillR, splice, Nat.reduceLT, Nat.reduceEqDiff, Nat.reduceLeDiff, Nat.reduceAdd, Nat.reduceSub, Nat.reduceMul, Int.reduceBEq, Int.reduceBNe, Int.reduceLT, Int.reduceLE, Int.reduceEq, reduceIte, reduceCtorEq, da, int, boolA, h0, h1, h12, h13, g, atS gi, cS gi, atS gj, cS gj, e1', e2']
        refine hret _ _ _ (by rw [hc, sameS, e1, e2, Bool.true_and, Bool.false_and, Bool.false_and]) ?_
        simp only [↓vp, vq0, vq1, vq2, vq3, vr0, vr1, vr2, vr3, vr4, vr5, vr6, vr7, vr8, vr9, vr10, vr11, vr12, vr13, vr14, vr15, vr16, vr17, vr18, vr19, vr20, vr21, vr22, vr23, vr24, vr25, vr26, vr27, vr28, vr29, vr30, vr31, vr32, vr33, vr34, opS, fpS, okP, pack, nAl, allocA, shId, leaves, fillA, fillR, splice, Nat.reduceLT, Nat.reduceEqDiff, Nat.reduceLeDiff, Nat.reduceAdd, Nat.reduceSub, Nat.reduceMul, Int.reduceBEq, Int.reduceBNe, Int.reduceLT, Int.reduceLE, Int.reduceEq, reduceIte, reduceCtorEq, da, int, boolA]
      | true =>
        have e2' : (a[i].k != b[i].k) = false := by rw [bne, e2]; rfl
        cases e3 : sameN a[i].n b[i].n with
        | false =>
          simp only [↓vp, vq0, vq1, vq2, vq3, vr0, vr1, vr2, vr3, vr4, vr5, vr6, vr7, vr8, vr9, vr10, vr11, vr12, vr13, vr14, vr15, vr16, vr17, vr18, vr19, vr20, vr21, vr22, vr23, vr24, vr25, vr26, vr27, vr28, vr29, vr30, vr31, vr32, vr33, vr34, opS, fpS, okP, pack, nAl, allocA, shId, leaves, fillA, fillR, splice, Nat.reduceLT, Nat.reduceEqDiff, Nat.reduceLeDiff, Nat.reduceAdd, Nat.reduceSub, Nat.reduceMul, Int.reduceBEq, Int.reduceBNe, Int.reduceLT, Int.reduceLE, Int.reduceEq, reduceIte, reduceCtorEq, da, int, boolA, h0, h1, h12, h13, g, atS gi, cS gi, atS gj, cS gj, e1', e2', k53, k52, t1, t1', o1, o2, e3, kp, kq]
          refine hret _ _ _ (by rw [hc, sameS, e1, e2, e3, Bool.true_and, Bool.true_and, Bool.false_and]) ?_
          simp only [↓vp, vq0, vq1, vq2, vq3, vr0, vr1, vr2, vr3, vr4, vr5, vr6, vr7, vr8, vr9, vr10, vr11, vr12, vr13, vr14, vr15, vr16, vr17, vr18, vr19, vr20, vr21, vr22, vr23, vr24, vr25, vr26, vr27, vr28, vr29, vr30, vr31, vr32, vr33, vr34, opS, fpS, okP, pack, nAl, allocA, shId, leaves, fillA, fillR, splice, Nat.reduceLT, Nat.reduceEqDiff, Nat.reduceLeDiff, Nat.reduceAdd, Nat.reduceSub, Nat.reduceMul, Int.reduceBEq, Int.reduceBNe, Int.reduceLT, Int.reduceLE, Int.reduceEq, reduceIte, reduceCtorEq, da, int, boolA]
        | true =>
          simp only [↓vp, vq0, vq1, vq2, vq3, vr0, vr1, vr2, vr3, vr4, vr5, vr6, vr7, vr8, vr9, vr10, vr11, vr12, vr13, vr14, vr15, vr16, vr17, vr18, vr19, vr20, vr21, vr22, vr23, vr24, vr25, vr26, vr27, vr28, vr29, vr30, vr31, vr32, vr33, vr34, opS, fpS, okP, pack, nAl, allocA, shId, leaves, fillA, fillR, splice, Nat.reduceLT, Nat.reduceEqDiff, Nat.reduceLeDiff, Nat.reduceAdd, Nat.reduceSub, Nat.reduceMul, Int.reduceBEq, Int.reduceBNe, Int.reduceLT, Int.reduceLE, Int.reduceEq, reduceIte, reduceCtorEq, da, int, boolA, h0, h1, h12, h13, g, atS gi, cS gi, atS gj, cS gj, e1', e2', k53, k52, t1, t1', o1, o2, e3, kp, kq, w1]
          refine ih (i + 1) _ _ (by omega) (by rw [hc, sameS, e1, e2, e3, Bool.true_and, Bool.true_and, Bool.true_and]) ?_ ?_ ?_ ?_ <;> simp only [↓vp, vq0, vq1, vq2, vq3, vr0, vr1, vr2, vr3, vr4, vr5, vr6, vr7, vr8, vr9, vr10, vr11, vr12, vr13, vr14, vr15, vr16, vr17, vr18, vr19, vr20, vr21, vr22, vr23, vr24, vr25, vr26, vr27, vr28, vr29, vr30, vr31, vr32, vr33, vr34, opS, fpS, okP, pack, nAl, allocA, shId, leaves, fillA, fillR, splice, Nat.reduceLT, Nat.reduceEqDiff, Nat.reduceLeDiff, Nat.reduceAdd, Nat.reduceSub, Nat.reduceMul, Int.reduceBEq, Int.reduceBNe, Int.reduceLT, Int.reduceLE, Int.reduceEq, reduceIte, reduceCtorEq, da, int, boolA, h0, h1, h12]
theorem s20 (a b : List StepM) (ha : okS a) (hb : okS b) (hi : a.length ≤ 12) (H : Heap) : callL ft (.fn (.func 20) [] []) [encS a, encS b] H = some (boolA (stepsM a b), H) := by
  refine call_p (as' := [encS a, encS b]) rfl rfl (by simp) ?_
  unfold c20 r20
  cases e : ((a.length : Int) != b.length) with
  | true =>
    have e' : (a.length == b.length) = false := by
      have : (a.length : Int) ≠ b.length := by simpa using e
      simp; omega
    simp only [↓vp, vq0, vq1, vq2, vq3, vr0, vr1, vr2, vr3, vr4, vr5, vr6, vr7, vr8, vr9, vr10, vr11, vr12, vr13, vr14, vr15, vr16, vr17, vr18, vr19, vr20, vr21, vr22, vr23, vr24, vr25, vr26, vr27, vr28, vr29, vr30, vr31, vr32, vr33, vr34, opS, fpS, okP, pack, nAl, allocA, shId, leaves, fillA, fillR, splice, Nat.reduceLT, Nat.reduceEqDiff, Nat.reduceLeDiff, Nat.reduceAdd, Nat.reduceSub, Nat.reduceMul, Int.reduceBEq, Int.reduceBNe, Int.reduceLT, Int.reduceLE, Int.reduceEq, reduceIte, reduceCtorEq, da, int, boolA, RetP_go, resT, resC, resN, retV1, retV2, retV3, retV0, frzFZ, takeM, Option.some.injEq, e, stepsM, e', Bool.false_and]
  | false =>
    have hl : a.length = b.length := by
      have : (a.length : Int) = b.length := by simpa using e
      omega
    have e' : (a.length == b.length) = true := by simpa using hl
    simp only [↓vp, vq0, vq1, vq2, vq3, vr0, vr1, vr2, vr3, vr4, vr5, vr6, vr7, vr8, vr9, vr10, vr11, vr12, vr13, vr14, vr15, vr16, vr17, vr18, vr19, vr20, vr21, vr22, vr23, vr24, vr25, vr26, vr27, vr28, vr29, vr30, vr31, vr32, vr33, vr34, opS, fpS, okP, pack, nAl, allocA, shId, leaves, fillA, fillR, splice, Nat.reduceLT, Nat.reduceEqDiff, Nat.reduceLeDiff, Nat.reduceAdd, Nat.reduceSub, Nat.reduceMul, Int.reduceBEq, Int.reduceBNe, Int.reduceLT, Int.reduceLE, Int.reduceEq, reduceIte, reduceCtorEq, da, int, boolA, e]
    refine l20 a b ha hb hl hi (fun f' K hs => ?_) (fun f' K L hs h4 => ?_) a.length 0 _ _ (by omega) rfl ?_ ?_ ?_ ?_
    · unfold c20R1
      simp only [↓vp, vq0, vq1, vq2, vq3, vr0, vr1, vr2, vr3, vr4, vr5, vr6, vr7, vr8, vr9, vr10, vr11, vr12, vr13, vr14, vr15, vr16, vr17, vr18, vr19, vr20, vr21, vr22, vr23, vr24, vr25, vr26, vr27, vr28, vr29, vr30, vr31, vr32, vr33, vr34, opS, fpS, okP, pack, nAl, allocA, shId, leaves, fillA, fillR, splice, Nat.reduceLT, Nat.reduceEqDiff, Nat.reduceLeDiff, Nat.reduceAdd, Nat.reduceSub, Nat.reduceMul, Int.reduceBEq, Int.reduceBNe, Int.reduceLT, Int.reduceLE, Int.reduceEq, reduceIte, reduceCtorEq, da, int, boolA, RetP_go, resT, resC, resN, retV1, retV2, retV3, retV0, frzFZ, takeM, Option.some.injEq, stepsM, e', hs]
    · simp only [↓vp, vq0, vq1, vq2, vq3, vr0, vr1, vr2, vr3, vr4, vr5, vr6, vr7, vr8, vr9, vr10, vr11, vr12, vr13, vr14, vr15, vr16, vr17, vr18, vr19, vr20, vr21, vr22, vr23, vr24, vr25, vr26, vr27, vr28, vr29, vr30, vr31, vr32, vr33, vr34, opS, fpS, okP, pack, nAl, allocA, shId, leaves, fillA, fillR, splice, Nat.reduceLT, Nat.reduceEqDiff, Nat.reduceLeDiff, Nat.reduceAdd, Nat.reduceSub, Nat.reduceMul, Int.reduceBEq, Int.reduceBNe, Int.reduceLT, Int.reduceLE, Int.reduceEq, reduceIte, reduceCtorEq, da, int, boolA, RetP_go, resT, resC, resN, retV1, retV2, retV3, retV0, frzFZ, takeM, Option.some.injEq, h4, stepsM, e', hs]
    all_goals first | rfl | (simp only [↓vp, vq0, vq1, vq2, vq3, vr0, vr1, vr2, vr3, vr4, vr5, vr6, vr7, vr8, vr9, vr10, vr11, vr12, vr13, vr14, vr15, vr16, vr17, vr18, vr19, vr20, vr21, vr22, vr23, vr24, vr25, vr26, vr27, vr28, vr29, vr30, vr31, vr32, vr33, vr34, opS, fpS, okP, pack, nAl, allocA, shId, leaves, fillA, fillR, splice, Nat.reduceLT, Nat.reduceEqDiff, Nat.reduceLeDiff, Nat.reduceAdd, Nat.reduceSub, Nat.reduceMul, Int.reduceBEq, Int.reduceBNe, Int.reduceLT, Int.reduceLE, Int.reduceEq, reduceIte, reduceCtorEq, da, int, boolA]; done)

/-! ### rising keys -/
def risI : List ItemM → Bool
  | x :: y :: r => decide (cmpB x.key y.key < 0) && risI (y :: r)
  | _ => true
def risK : List KidM → Bool
  | x :: y :: r => decide (cmpB x.key y.key < 0) && risK (y :: r)
  | _ => true
theorem risI_step {l : List ItemM} {i : Nat} (h : i + 1 < l.length) : risI (l.drop i) = (decide (cmpB l[i].key l[i + 1].key < 0) && risI (l.drop (i + 1))) := by
  rw [List.drop_eq_getElem_cons (by omega : i < l.length), List.drop_eq_getElem_cons h]
  rfl
theorem risK_step {l : List KidM} {i : Nat} (h : i + 1 < l.length) : risK (l.drop i) = (decide (cmpB l[i].key l[i + 1].key < 0) && risK (l.drop (i + 1))) := by
  rw [List.drop_eq_getElem_cons (by omega : i < l.length), List.drop_eq_getElem_cons h]
  rfl
theorem risI_end {l : List ItemM} {i : Nat} (h : l.length ≤ i + 1) : risI (l.drop i) = true := by
  have : (l.drop i).length ≤ 1 := by simp; omega
  match hx : l.drop i, this with
  | [], _ => rfl
  | [x], _ => rfl
theorem risK_end {l : List KidM} {i : Nat} (h : l.length ≤ i + 1) : risK (l.drop i) = true := by
  have : (l.drop i).length ≤ 1 := by simp; omega
  match hx : l.drop i, this with
  | [], _ => rfl
  | [x], _ => rfl
def risN (n : NodeM) : Bool := risI n.items && risK (n.kids.drop 1)
theorem l15a (n : NodeM) (hn : okN n) {Q : AExit → Env → Heap → Prop}
   (hex : ∀ f', f' 1 = .ptr 0 0 0 → risI n.items = true → Q (.exit 0) (mkE 49 f') (hx Heap.empty [.box false (nodeC n)]))
   (hret : ∀ f', risI n.items = false → f' 2 = boolA false → Q .ret (mkE 49 f') (hx Heap.empty [.box false (nodeC n)])) :
   ∀ (d i : Nat) (f : Nat → AV), n.items.length ≤ i + 1 + d → risI n.items = risI (n.items.drop i) → i < 9223372036854775806 → f 1 = .ptr 0 0 0 → f 3 = int (i + 1 : Nat) →
    AW ft (.loop c15L0) (mkE 49 f) (hx Heap.empty [.box false (nodeC n)]) Q := by
  intro d
  have hi := hn.i.n
  unfold MX at hi
  induction d with
  | zero =>
    intro i f hd hc hb h1 h3
    have g : (((i + 1 : Nat) : Int) < n.items.length) = False := eq_false (by omega)
    rw [AW_loop]
    unfold c15L0
    simp only [↓vp, vq0, vq1, vq2, vq3, vr0, vr1, vr2, vr3, vr4, vr5, vr6, vr7, vr8, vr9, vr10, vr11, vr12, vr13, vr14, vr15, vr16, vr17, vr18, vr19, vr20, vr21, vr22, vr23, vr24, vr25, vr26, vr27, vr28, vr29, vr30, vr31, vr32, vr33, vr34, opS, fpS, okP, pack, nAl, allocA, shId, leaves, fillA, fillR, splice, Nat.reduceLT, Nat.reduceEqDiff, Nat.reduceLeDiff, Nat.reduceAdd, Nat.reduceSub, Nat.reduceMul, Int.reduceBEq, Int.reduceBNe, Int.reduceLT, Int.reduceLE, Int.reduceEq, reduceIte, reduceCtorEq, da, int, boolA, h1, h3, g]
    refine hex _ ?_ (by rw [hc]; exact risI_end (by omega))
    simp only [↓vp, vq0, vq1, vq2, vq3, vr0, vr1, vr2, vr3, vr4, vr5, vr6, vr7, vr8, vr9, vr10, vr11, vr12, vr13, vr14, vr15, vr16, vr17, vr18, vr19, vr20, vr21, vr22, vr23, vr24, vr25, vr26, vr27, vr28, vr29, vr30, vr31, vr32, vr33, vr34, opS, fpS, okP, pack, nAl, allocA, shId, leaves, fillA, fillR, splice, Nat.reduceLT, Nat.reduceEqDiff, Nat.reduceLeDiff, Nat.reduceAdd, Nat.reduceSub, Nat.reduceMul, Int.reduceBEq, Int.reduceBNe, Int.reduceLT, Int.reduceLE, Int.reduceEq, reduceIte, reduceCtorEq, da, int, boolA, h1]
  | succ d ih =>
    intro i f hd hc hb h1 h3
    by_cases hlt : i + 1 < n.items.length
    · have g : (((i + 1 : Nat) : Int) < n.items.length) = True := eq_true (by omega)
      have gi : i < n.items.length := by omega
      have o1 := (hn.i.at_ gi).k
      have o2 := (hn.i.at_ hlt).k
      have w0 := wrap_pred (show i < 9223372036854775807 by omega)
      have w1 := wrap_succ (show i + 1 < 9223372036854775807 by omega)
      rw [risI_step hlt] at hc
      rw [AW_loop]
      unfold c15L0
      by_cases e1 : cmpB n.items[i].key n.items[i + 1].key < 0
      · have e1' : (0 ≤ cmpB n.items[i].key n.items[i + 1].key) = False := eq_false (by omega)
        simp only [↓vp, vq0, vq1, vq2, vq3, vr0, vr1, vr2, vr3, vr4, vr5, vr6, vr7, vr8, vr9, vr10, vr11, vr12, vr13, vr14, vr15, vr16, vr17, vr18, vr19, vr20, vr21, vr22, vr23, vr24, vr25, vr26, vr27, vr28, vr29, vr30, vr31, vr32, vr33, vr34, opS, fpS, okP, pack, nAl, allocA, shId, leaves, fillA, fillR, splice, Nat.reduceLT, Nat.reduceEqDiff, Nat.reduceLeDiff, Nat.reduceAdd, Nat.reduceSub, Nat.reduceMul, Int.reduceBEq, Int.reduceBNe, Int.reduceLT, Int.reduceLE, Int.reduceEq, reduceIte, reduceCtorEq, da, int, boolA, h1, h3, g, w0, atI gi, cI gi, atI hlt, cI hlt, k25, o1, o2, e1', w1]
        refine ih (i + 1) _ (by omega) (by rw [hc]; simp [e1]) (by omega) ?_ ?_ <;> simp only [↓vp, vq0, vq1, vq2, vq3, vr0, vr1, vr2, vr3, vr4, vr5, vr6, vr7, vr8, vr9, vr10, vr11, vr12, vr13, vr14, vr15, vr16, vr17, vr18, vr19, vr20, vr21, vr22, vr23, vr24, vr25, vr26, vr27, vr28, vr29, vr30, vr31, vr32, vr33, vr34, opS, fpS, okP, pack, nAl, allocA, shId, leaves, fillA, fillR, splice, Nat.reduceLT, Nat.reduceEqDiff, Nat.reduceLeDiff, Nat.reduceAdd, Nat.reduceSub, Nat.reduceMul, Int.reduceBEq, Int.reduceBNe, Int.reduceLT, Int.reduceLE, Int.reduceEq, reduceIte, reduceCtorEq, da, int, boolA, h1]
      · have e1' : (0 ≤ cmpB n.items[i].key n.items[i + 1].key) = True := eq_true (by omega)
        simp only [↓vp, vq0, vq1, vq2, vq3, vr0, vr1, vr2, vr3, vr4, vr5, vr6, vr7, vr8, vr9, vr10, vr11, vr12, vr13, vr14, vr15, vr16, vr17, vr18, vr19, vr20, vr21, vr22, vr23, vr24, vr25, vr26, vr27, vr28, vr29, vr30, vr31, vr32, vr33, vr34, opS, fpS, okP, pack, nAl, allocA, shId, leaves, fillA, fillR, splice, Nat.reduceLT, Nat.reduceEqDiff, Nat.reduceLeDiff, Nat.reduceAdd, Nat.reduceSub, Nat.reduceMul, Int.reduceBEq, Int.reduceBNe, Int.reduceLT, Int.reduceLE, Int.reduceEq, reduceIte, reduceCtorEq, da, int, boolA, h1, h3, g, w0, atI gi, cI gi, atI hlt, cI hlt, k25, o1, o2, e1']
        refine hret _ (by rw [hc]; simp [e1]) ?_
        simp only [↓vp, vq0, vq1, vq2, vq3, vr0, vr1, vr2, vr3, vr4, vr5, vr6, vr7, vr8, vr9, vr10, vr11, vr12, vr13, vr14, vr15, vr16, vr17, vr18, vr19, vr20, vr21, vr22, vr23, vr24, vr25, vr26, vr27, vr28, vr29, vr30, vr31, vr32, vr33, vr34, opS, fpS, okP, pack, nAl, allocA, shId, leaves, fillA, fillR, splice, Nat.reduceLT, Nat.reduceEqDiff, Nat.reduceLeDiff, Nat.reduceAdd, Nat.reduceSub, Nat.reduceMul, Int.reduceBEq, Int.reduceBNe, Int.reduceLT, Int.reduceLE, Int.reduceEq, reduceIte, reduceCtorEq, da, int, boolA]
    · have g : (((i + 1 : Nat) : Int) < n.items.length) = False := eq_false (by omega)
      rw [AW_loop]
      unfold c15L0
      simp only [↓vp, vq0, vq1, vq2, vq3, vr0, vr1, vr2, vr3, vr4, vr5, vr6, vr7, vr8, vr9, vr10, vr11, vr12, vr13, vr14, vr15, vr16, vr17, vr18, vr19, vr20, vr21, vr22, vr23, vr24, vr25, vr26, vr27, vr28, vr29, vr30, vr31, vr32, vr33, vr34, opS, fpS, okP, pack, nAl, allocA, shId, leaves, fillA, fillR, splice, Nat.reduceLT, Nat.reduceEqDiff, Nat.reduceLeDiff, Nat.reduceAdd, Nat.reduceSub, Nat.reduceMul, Int.reduceBEq, Int.reduceBNe, Int.reduceLT, Int.reduceLE, Int.reduceEq, reduceIte, reduceCtorEq, da, int, boolA, h1, h3, g]
      refine hex _ ?_ (by rw [hc]; exact risI_end (by omega))
      simp only [↓vp, vq0, vq1, vq2, vq3, vr0, vr1, vr2, vr3, vr4, vr5, vr6, vr7, vr8, vr9, vr10, vr11, vr12, vr13, vr14, vr15, vr16, vr17, vr18, vr19, vr20, vr21, vr22, vr23, vr24, vr25, vr26, vr27, vr28, vr29, vr30, vr31, vr32, vr33, vr34, opS, fpS, okP, pack, nAl, allocA, shId, leaves, fillA, fillR, splice, Nat.reduceLT, Nat.reduceEqDiff, Nat.reduceLeDiff, Nat.reduceAdd, Nat.reduceSub, Nat.reduceMul, Int.reduceBEq, Int.reduceBNe, Int.reduceLT, Int.reduceLE, Int.reduceEq, reduceIte, reduceCtorEq, da, int, boolA, h1]
theorem l15b (n : NodeM) (hn : okN n) {Q : AExit → Env → Heap → Prop}
   (hex : ∀ f', f' 1 = .ptr 0 0 0 → risK (n.kids.drop 1) = true → Q (.exit 2) (mkE 49 f') (hx Heap.empty [.box false (nodeC n)]))
   (hret : ∀ f', risK (n.kids.drop 1) = false → f' 2 = boolA false → Q .ret (mkE 49 f') (hx Heap.empty [.box false (nodeC n)])) :
   ∀ (d i : Nat) (f : Nat → AV), n.kids.length ≤ i + 1 + d → risK (n.kids.drop 1) = risK (n.kids.drop i) → i < 9223372036854775806 → f 1 = .ptr 0 0 0 → f 4 = int (i + 1 : Nat) →
    AW ft (.loop c15L1) (mkE 49 f) (hx Heap.empty [.box false (nodeC n)]) Q := by
  intro d
  have hi := hn.k.n
  unfold MX at hi
  induction d with
  | zero =>
    intro i f hd hc hb h1 h4
    have g : (((i + 1 : Nat) : Int) < n.kids.length) = False := eq_false (by omega)
    rw [AW_loop]
    unfold c15L1
    simp only [↓vp, vq0, vq1, vq2, vq3, vr0, vr1, vr2, vr3, vr4, vr5, vr6, vr7, vr8, vr9, vr10, vr11, vr12, vr13, vr14, vr15, vr16, vr17, vr18, vr19, vr20, vr21, vr22, vr23, vr24, vr25, vr26, vr27, vr28, vr29, vr30, vr31, vr32, vr33, vr34, opS, fpS, okP, pack, nAl, allocA, shId, leaves, fillA, fillR, splice, Nat.reduceLT, Nat.reduceEqDiff, Nat.reduceLeDiff, Nat.reduceAdd, Nat.reduceSub, Nat.reduceMul, Int.reduceBEq, Int.reduceBNe, Int.reduceLT, Int.reduceLE, Int.reduceEq, reduceIte, reduceCtorEq, da, int, boolA, h1, h4, g]
    refine hex _ ?_ (by rw [hc]; exact risK_end (by omega))
    simp only [↓vp, vq0, vq1, vq2, vq3, vr0, vr1, vr2, vr3, vr4, vr5, vr6, vr7, vr8, vr9, vr10, vr11, vr12, vr13, vr14, vr15, vr16, vr17, vr18, vr19, vr20, vr21, vr22, vr23, vr24, vr25, vr26, vr27, vr28, vr29, vr30, vr31, vr32, vr33, vr34, opS, fpS, okP, pack, nAl, allocA, shId, leaves, fillA, fillR, splice, Nat.reduceLT, Nat.reduceEqDiff, Nat.reduceLeDiff, Nat.reduceAdd, Nat.reduceSub, Nat.reduceMul, Int.reduceBEq, Int.reduceBNe, Int.reduceLT, Int.reduceLE, Int.reduceEq, reduceIte, reduceCtorEq, da, int, boolA, h1]
  | succ d ih =>
    intro i f hd hc hb h1 h4
    by_cases hlt : i + 1 < n.kids.length
    · have g : (((i + 1 : Nat) : Int) < n.kids.length) = True := eq_true (by omega)
      have gi : i < n.kids.length := by omega
      have o1 := hn.k.at_ gi
      have o2 := hn.k.at_ hlt
      have w0 := wrap_pred (show i < 9223372036854775807 by omega)
      have w1 := wrap_succ (show i + 1 < 9223372036854775807 by omega)
      rw [risK_step hlt] at hc
      rw [AW_loop]
      unfold c15L1
      by_cases e1 : cmpB n.kids[i].key n.kids[i + 1].key < 0
      · have e1' : (0 ≤ cmpB n.kids[i].key n.kids[i + 1].key) = False := eq_false (by omega)
        simp only [↓vp, vq0, vq1, vq2, vq3, vr0, vr1, vr2, vr3, vr4, vr5, vr6, vr7, vr8, vr9, vr10, vr11, vr12, vr13, vr14, vr15, vr16, vr17, vr18, vr19, vr20, vr21, vr22, vr23, vr24, vr25, vr26, vr27, vr28, vr29, vr30, vr31, vr32, vr33, vr34, opS, fpS, okP, pack, nAl, allocA, shId, leaves, fillA, fillR, splice, Nat.reduceLT, Nat.reduceEqDiff, Nat.reduceLeDiff, Nat.reduceAdd, Nat.reduceSub, Nat.reduceMul, Int.reduceBEq, Int.reduceBNe, Int.reduceLT, Int.reduceLE, Int.reduceEq, reduceIte, reduceCtorEq, da, int, boolA, h1, h4, g, w0, atK gi, cK gi, atK hlt, cK hlt, k25, o1, o2, e1', w1]
        refine ih (i + 1) _ (by omega) (by rw [hc]; simp [e1]) (by omega) ?_ ?_ <;> simp only [↓vp, vq0, vq1, vq2, vq3, vr0, vr1, vr2, vr3, vr4, vr5, vr6, vr7, vr8, vr9, vr10, vr11, vr12, vr13, vr14, vr15, vr16, vr17, vr18, vr19, vr20, vr21, vr22, vr23, vr24, vr25, vr26, vr27, vr28, vr29, vr30, vr31, vr32, vr33, vr34, opS, fpS, okP, pack, nAl, allocA, shId, leaves, fillA, fillR, splice, Nat.reduceLT, Nat.reduceEqDiff, Nat.reduceLeDiff, Nat.reduceAdd, Nat.reduceSub, Nat.reduceMul, Int.reduceBEq, Int.reduceBNe, Int.reduceLT, Int.reduceLE, Int.reduceEq, reduceIte, reduceCtorEq, da, int, boolA, h1]
      · have e1' : (0 ≤ cmpB n.kids[i].key n.kids[i + 1].key) = True := eq_true (by omega)
        simp only [↓vp, vq0, vq1, vq2, vq3, vr0, vr1, vr2, vr3, vr4, vr5, vr6, vr7, vr8, vr9, vr10, vr11, vr12, vr13, vr14, vr15, vr16, vr17, vr18, vr19, vr20, vr21, vr22, vr23, vr24, vr25, vr26, vr27, vr28, vr29, vr30, vr31, vr32, vr33, vr34, opS, fpS, okP, pack, nAl, allocA, shId, leaves, fillA, fillR, splice, Nat.reduceLT, Nat.reduceEqDiff, Nat.reduceLeDiff, Nat.reduceAdd, Nat.reduceSub, Nat.reduceMul, Int.reduceBEq, Int.reduceBNe, Int.reduceLT, Int.reduceLE, Int.reduceEq, reduceIte, reduceCtorEq, da, int, boolA, h1, h4, g, w0, atK gi, cK gi, atK hlt, cK hlt, k25, o1, o2, e1']
        refine hret _ (by rw [hc]; simp [e1]) ?_
        simp only [↓vp, vq0, vq1, vq2, vq3, vr0, vr1, vr2, vr3, vr4, vr5, vr6, vr7, vr8, vr9, vr10, vr11, vr12, vr13, vr14, vr15, vr16, vr17, vr18, vr19, vr20, vr21, vr22, vr23, vr24, vr25, vr26, vr27, vr28, vr29, vr30, vr31, vr32, vr33, vr34, opS, fpS, okP, pack, nAl, allocA, shId, leaves, fillA, fillR, splice, Nat.reduceLT, Nat.reduceEqDiff, Nat.reduceLeDiff, Nat.reduceAdd, Nat.reduceSub, Nat.reduceMul, Int.reduceBEq, Int.reduceBNe, Int.reduceLT, Int.reduceLE, Int.reduceEq, reduceIte, reduceCtorEq, da, int, boolA]
    · have g : (((i + 1 : Nat) : Int) < n.kids.length) = False := eq_false (by omega)
      rw [AW_loop]
      unfold c15L1
      simp only [↓vp, vq0, vq1, vq2, vq3, vr0, vr1, vr2, vr3, vr4, vr5, vr6, vr7, vr8, vr9, vr10, vr11, vr12, vr13, vr14, vr15, vr16, vr17, vr18, vr19, vr20, vr21, vr22, vr23, vr24, vr25, vr26, vr27, vr28, vr29, vr30, vr31, vr32, vr33, vr34, opS, fpS, okP, pack, nAl, allocA, shId, leaves, fillA, fillR, splice, Nat.reduceLT, Nat.reduceEqDiff, Nat.reduceLeDiff, Nat.reduceAdd, Nat.reduceSub, Nat.reduceMul, Int.reduceBEq, Int.reduceBNe, Int.reduceLT, Int.reduceLE, Int.reduceEq, reduceIte, reduceCtorEq, da, int, boolA, h1, h4, g]
      refine hex _ ?_ (by rw [hc]; exact risK_end (by omega))
      simp only [↓vp, vq0, vq1, vq2, vq3, vr0, vr1, vr2, vr3, vr4, vr5, vr6, vr7, vr8, vr9, vr10, vr11, vr12, vr13, vr14, vr15, vr16, vr17, vr18, vr19, vr20, vr21, vr22, vr23, vr24, vr25, vr26, vr27, vr28, vr29, vr30, vr31, vr32, vr33, vr34, opS, fpS, okP, pack, nAl, allocA, shId, leaves, fillA, fillR, splice, Nat.reduceLT, Nat.reduceEqDiff, Nat.reduceLeDiff, Nat.reduceAdd, Nat.reduceSub, Nat.reduceMul, Int.reduceBEq, Int.reduceBNe, Int.reduceLT, Int.reduceLE, Int.reduceEq, reduceIte, reduceCtorEq, da, int, boolA, h1]
theorem s15 (n : NodeM) (hn : okN n) (H : Heap) : callL ft (.fn (.func 15) [] []) [.agg (nodeC n)] H = some (boolA (risN n), H) := by
  refine call_p (as' := [.agg (nodeC n)]) rfl rfl (by simp) ?_
  have hi := hn.i.n
  have hk := hn.k.n
  unfold MX at hi hk
  unfold c15 r15
  simp only [↓vp, vq0, vq1, vq2, vq3, vr0, vr1, vr2, vr3, vr4, vr5, vr6, vr7, vr8, vr9, vr10, vr11, vr12, vr13, vr14, vr15, vr16, vr17, vr18, vr19, vr20, vr21, vr22, vr23, vr24, vr25, vr26, vr27, vr28, vr29, vr30, vr31, vr32, vr33, vr34, opS, fpS, okP, pack, nAl, allocA, shId, leaves, fillA, fillR, splice, Nat.reduceLT, Nat.reduceEqDiff, Nat.reduceLeDiff, Nat.reduceAdd, Nat.reduceSub, Nat.reduceMul, Int.reduceBEq, Int.reduceBNe, Int.reduceLT, Int.reduceLE, Int.reduceEq, reduceIte, reduceCtorEq, da, int, boolA]
  refine l15a n hn (fun f' h1 hs => ?_) (fun f' hs h2 => ?_) n.items.length 0 _ (by omega) rfl (by omega) ?_ ?_
  · unfold c15R3
    simp only [↓vp, vq0, vq1, vq2, vq3, vr0, vr1, vr2, vr3, vr4, vr5, vr6, vr7, vr8, vr9, vr10, vr11, vr12, vr13, vr14, vr15, vr16, vr17, vr18, vr19, vr20, vr21, vr22, vr23, vr24, vr25, vr26, vr27, vr28, vr29, vr30, vr31, vr32, vr33, vr34, opS, fpS, okP, pack, nAl, allocA, shId, leaves, fillA, fillR, splice, Nat.reduceLT, Nat.reduceEqDiff, Nat.reduceLeDiff, Nat.reduceAdd, Nat.reduceSub, Nat.reduceMul, Int.reduceBEq, Int.reduceBNe, Int.reduceLT, Int.reduceLE, Int.reduceEq, reduceIte, reduceCtorEq, da, int, boolA]
    refine l15b n hn (fun f'' h1' hs' => ?_) (fun f'' hs' h2' => ?_) n.kids.length 1 _ (by omega) rfl (by omega) ?_ ?_
    · unfold c15R2
      simp only [↓vp, vq0, vq1, vq2, vq3, vr0, vr1, vr2, vr3, vr4, vr5, vr6, vr7, vr8, vr9, vr10, vr11, vr12, vr13, vr14, vr15, vr16, vr17, vr18, vr19, vr20, vr21, vr22, vr23, vr24, vr25, vr26, vr27, vr28, vr29, vr30, vr31, vr32, vr33, vr34, opS, fpS, okP, pack, nAl, allocA, shId, leaves, fillA, fillR, splice, Nat.reduceLT, Nat.reduceEqDiff, Nat.reduceLeDiff, Nat.reduceAdd, Nat.reduceSub, Nat.reduceMul, Int.reduceBEq, Int.reduceBNe, Int.reduceLT, Int.reduceLE, Int.reduceEq, reduceIte, reduceCtorEq, da, int, boolA, RetP_go, resT, resC, resN, retV1, retV2, retV3, retV0, frzFZ, takeM, Option.some.injEq, risN, hs, hs']
    · simp only [↓vp, vq0, vq1, vq2, vq3, vr0, vr1, vr2, vr3, vr4, vr5, vr6, vr7, vr8, vr9, vr10, vr11, vr12, vr13, vr14, vr15, vr16, vr17, vr18, vr19, vr20, vr21, vr22, vr23, vr24, vr25, vr26, vr27, vr28, vr29, vr30, vr31, vr32, vr33, vr34, opS, fpS, okP, pack, nAl, allocA, shId, leaves, fillA, fillR, splice, Nat.reduceLT, Nat.reduceEqDiff, Nat.reduceLeDiff, Nat.reduceAdd, Nat.reduceSub, Nat.reduceMul, Int.reduceBEq, Int.reduceBNe, Int.reduceLT, Int.reduceLE, Int.reduceEq, reduceIte, reduceCtorEq, da, int, boolA, RetP_go, resT, resC, resN, retV1, retV2, retV3, retV0, frzFZ, takeM, Option.some.injEq, h2', risN, hs, hs']
    · simp only [↓vp, vq0, vq1, vq2, vq3, vr0, vr1, vr2, vr3, vr4, vr5, vr6, vr7, vr8, vr9, vr10, vr11, vr12, vr13, vr14, vr15, vr16, vr17, vr18, vr19, vr20, vr21, vr22, vr23, vr24, vr25, vr26, vr27, vr28, vr29, vr30, vr31, vr32, vr33, vr34, opS, fpS, okP, pack, nAl, allocA, shId, leaves, fillA, fillR, splice, Nat.reduceLT, Nat.reduceEqDiff, Nat.reduceLeDiff, Nat.reduceAdd, Nat.reduceSub, Nat.reduceMul, Int.reduceBEq, Int.reduceBNe, Int.reduceLT, Int.reduceLE, Int.reduceEq, reduceIte, reduceCtorEq, da, int, boolA, h1]
    · simp only [↓vp, vq0, vq1, vq2, vq3, vr0, vr1, vr2, vr3, vr4, vr5, vr6, vr7, vr8, vr9, vr10, vr11, vr12, vr13, vr14, vr15, vr16, vr17, vr18, vr19, vr20, vr21, vr22, vr23, vr24, vr25, vr26, vr27, vr28, vr29, vr30, vr31, vr32, vr33, vr34, opS, fpS, okP, pack, nAl, allocA, shId, leaves, fillA, fillR, splice, Nat.reduceLT, Nat.reduceEqDiff, Nat.reduceLeDiff, Nat.reduceAdd, Nat.reduceSub, Nat.reduceMul, Int.reduceBEq, Int.reduceBNe, Int.reduceLT, Int.reduceLE, Int.reduceEq, reduceIte, reduceCtorEq, da, int, boolA]; rfl
  · simp only [↓vp, vq0, vq1, vq2, vq3, vr0, vr1, vr2, vr3, vr4, vr5, vr6, vr7, vr8, vr9, vr10, vr11, vr12, vr13, vr14, vr15, vr16, vr17, vr18, vr19, vr20, vr21, vr22, vr23, vr24, vr25, vr26, vr27, vr28, vr29, vr30, vr31, vr32, vr33, vr34, opS, fpS, okP, pack, nAl, allocA, shId, leaves, fillA, fillR, splice, Nat.reduceLT, Nat.reduceEqDiff, Nat.reduceLeDiff, Nat.reduceAdd, Nat.reduceSub, Nat.reduceMul, Int.reduceBEq, Int.reduceBNe, Int.reduceLT, Int.reduceLE, Int.reduceEq, reduceIte, reduceCtorEq, da, int, boolA, RetP_go, resT, resC, resN, retV1, retV2, retV3, retV0, frzFZ, takeM, Option.some.injEq, h2, risN, hs, Bool.false_and]
  · simp only [↓vp, vq0, vq1, vq2, vq3, vr0, vr1, vr2, vr3, vr4, vr5, vr6, vr7, vr8, vr9, vr10, vr11, vr12, vr13, vr14, vr15, vr16, vr17, vr18, vr19, vr20, vr21, vr22, vr23, vr24, vr25, vr26, vr27, vr28, vr29, vr30, vr31, vr32, vr33, vr34, opS, fpS, okP, pack, nAl, allocA, shId, leaves, fillA, fillR, splice, Nat.reduceLT, Nat.reduceEqDiff, Nat.reduceLeDiff, Nat.reduceAdd, Nat.reduceSub, Nat.reduceMul, Int.reduceBEq, Int.reduceBNe, Int.reduceLT, Int.reduceLE, Int.reduceEq, reduceIte, reduceCtorEq, da, int, boolA]
  · simp only [↓vp, vq0, vq1, vq2, vq3, vr0, vr1, vr2, vr3, vr4, vr5, vr6, vr7, vr8, vr9, vr10, vr11, vr12, vr13, vr14, vr15, vr16, vr17, vr18, vr19, vr20, vr21, vr22, vr23, vr24, vr25, vr26, vr27, vr28, vr29, vr30, vr31, vr32, vr33, vr34, opS, fpS, okP, pack, nAl, allocA, shId, leaves, fillA, fillR, splice, Nat.reduceLT, Nat.reduceEqDiff, Nat.reduceLeDiff, Nat.reduceAdd, Nat.reduceSub, Nat.reduceMul, Int.reduceBEq, Int.reduceBNe, Int.reduceLT, Int.reduceLE, Int.reduceEq, reduceIte, reduceCtorEq, da, int, boolA]; rfl
end Go.VI

